import Derived.Test.YteindpciaceeeaaGreatRows
import Derived.IntWalk
import Derived.Test.YteindpciaceeeaaGreatZSh37dtoSh37e
set_option linter.all false
set_option maxHeartbeats 8000000
namespace Go.Sh
open Go Go.Proofs
variable [Con]
abbrev lE'{α:Type}(a:List α):Prop:=a.length=List.length a
abbrev cK9:List Code1:=[some .i64,some .i64,some .i64,some .i64,some .i64,some .i64,some .i64,none,some .i64]
abbrev cK7:List Code1:=[some .i64,none,some .i64,some .i64,some .i64,none,some .i64]
abbrev cK3:List Code1:=[some .i64,some .i64,some .i64]
abbrev tO'(n:Nat)(l:List AVal):List AVal:=List.replicate n .O++l
abbrev AVal.I(n:Int):AVal:=.int .i64 n
abbrev AVal.N:AVal:=.raw (.pointer none)
abbrev W(x:Int):Int:=IntKind.wrap IntKind.i64 x
abbrev WU(x:Int):Int:=IntKind.wrap IntKind.u64 x
theorem cW{x:Int}(h: -9223372036854775808≤x∧x≤9223372036854775807):IntKind.wrap IntKind.i64 x=x:=IntWalk.i64_in x h
structure MS where
 t:Int
 n:Int
 xs:List Int
 c:Int
 k:Int
 a:Int
 o:Int
 w:Int
 ok:Bool
structure AL where
 got:Int
 at':Int
 left:Int
 found:Int
 free:Bool
structure SWS where
 ph:Nat
 N:List Int
 m:List (Int×Int)
 i:Int
 ks:List Int
 fs:List Int
 gs:List Int
 j:Nat
 l:Nat
structure ENS where
 ph:Nat
 sh:Bool
 dn:Bool
 x:AL
 y:SWS
structure STS where
 me:Int
 sp:Int
 R:List Int
structure PLN where
 now:Bool
 code:Int
 okk:Bool
 val:Int
 addr:Int
 old:Int
 nxt:Int
 mark:Bool
 pops:Int
structure CLS where
 addr:Int
 at':Int
 word:Int
 found:Int
structure PRS where
 key:Int
 nxt:Int
 found:Int
 loaded:Bool
structure HDS where
 u:Int
 no:Int
 at':Int
 tk:Bool
structure DRS where
 th:Int
 at':Int
structure ANS where
 no:Int
 me:Int
 at':Int
 bits:Int
 wrong:Bool
 found:Int
structure AWS where
 code:Int
 okk:Bool
 val:Int
 me:Int
structure EXS where
 popped:Int
 gave:Int
 u:Int
 sh:Int
 kd:Int
 ky:Int
 only:Bool
 att:Int
 at':Int
 found:Int
 word:Int
structure FNS where
 pred:Int
 pw:Int
 curr:Int
 cw:Int
 tries:Int
 ul:List Int
 ab:Bool
 me:Int
 frm:Int
 key:Int
 limit:Int
 at':Int
 moved:Int
 cl:CLS
structure FTS where
 code:Int
 okk:Bool
 val:Int
 failed:Bool
 tries:Int
 sh:Int
 kd:Int
 ky:Int
 most:Int
 at':Int
 p:PLN
 fn:FNS
 cl:CLS
 pr:PRS
structure HPS where
 u:Int
 no:Int
 rounds:Int
 limit:Int
 at':Int
 found:Int
 sh:Int
 kd:Int
 ky:Int
 p:PLN
 ex:EXS
 en:ENS
 fn:FNS
 cl:CLS
 pr:PRS
structure DOS where
 code:Int
 okk:Bool
 val:Int
 slow:Bool
 sh:Int
 kd:Int
 ky:Int
 limit:Int
 at':Int
 hd:HDS
 hp:HPS
 en:ENS
 ft:FTS
 an:ANS
 aw:AWS
 fn:FNS
 dr:DRS
 sw:SWS
structure HST where
 ev:List (List Int)
 cl:List (List Int)
 n0:Int
 n1:Int
 n2:Int
 n3:Int
 n4:Int
 n5:Int
 n6:Int
 n7:Int
structure WKS where
 t:Int
 n:Int
 st:STS
 tk:List (List Int)
 en:Int
 b:Bool
 d:DOS
 tl:List Int
 sl:List Int
structure EGS where
 sh:Int
 th:Int
 nd:Int
 tr:Int
 s:MS
 h:HST
 ws:List WKS
 k:Int
instance:Inhabited PLN:=⟨⟨false,0,false,0,0,0,0,false,0⟩⟩
instance:Inhabited HST:=⟨⟨[],[],0,0,0,0,0,0,0,0⟩⟩
abbrev fH:DRS:=⟨0,0⟩
abbrev eD:HDS:=⟨0,0,0,false⟩
abbrev eC:AWS:=⟨0,false,0,0⟩
abbrev b9:CLS:=⟨0,0,0,0⟩
abbrev dG:PRS:=⟨0,0,0,false⟩
abbrev cX:SWS:=⟨0,[],[],0,[],[],[],0,0⟩
abbrev aEm:PLN:=⟨false,0,false,0,0,0,0,false,0⟩
abbrev eB:ANS:=⟨0,0,0,0,false,0⟩
abbrev bZ:ENS:=⟨0,false,false,⟨0,0,0,0,false⟩,⟨0,[],[],0,[],[],[],0,0⟩⟩
abbrev eN:EXS:=⟨0,0,0,0,0,0,false,0,0,0,0⟩
abbrev bQ:FNS:=⟨0,0,0,0,0,[],false,0,0,0,0,0,0,⟨0,0,0,0⟩⟩
abbrev dD:FTS:=⟨0,false,0,false,0,0,0,0,0,0,⟨false,0,false,0,0,0,0,false,0⟩,⟨0,0,0,0,0,[],false,0,0,0,0,0,0,⟨0,0,0,0⟩⟩,⟨0,0,0,0⟩,⟨0,0,0,false⟩⟩
abbrev dC:HPS:=⟨0,0,0,0,0,0,0,0,0,⟨false,0,false,0,0,0,0,false,0⟩,⟨0,0,0,0,0,0,false,0,0,0,0⟩,⟨0,false,false,⟨0,0,0,0,false⟩,⟨0,[],[],0,[],[],[],0,0⟩⟩,⟨0,0,0,0,0,[],false,0,0,0,0,0,0,⟨0,0,0,0⟩⟩,⟨0,0,0,0⟩,⟨0,0,0,false⟩⟩
abbrev eS:DOS:=⟨0,false,0,false,0,0,0,0,0,⟨0,0,0,false⟩,⟨0,0,0,0,0,0,0,0,0,⟨false,0,false,0,0,0,0,false,0⟩,⟨0,0,0,0,0,0,false,0,0,0,0⟩,⟨0,false,false,⟨0,0,0,0,false⟩,⟨0,[],[],0,[],[],[],0,0⟩⟩,⟨0,0,0,0,0,[],false,0,0,0,0,0,0,⟨0,0,0,0⟩⟩,⟨0,0,0,0⟩,⟨0,0,0,false⟩⟩,⟨0,false,false,⟨0,0,0,0,false⟩,⟨0,[],[],0,[],[],[],0,0⟩⟩,⟨0,false,0,false,0,0,0,0,0,0,⟨false,0,false,0,0,0,0,false,0⟩,⟨0,0,0,0,0,[],false,0,0,0,0,0,0,⟨0,0,0,0⟩⟩,⟨0,0,0,0⟩,⟨0,0,0,false⟩⟩,⟨0,0,0,0,false,0⟩,⟨0,false,0,0⟩,⟨0,0,0,0,0,[],false,0,0,0,0,0,0,⟨0,0,0,0⟩⟩,⟨0,0⟩,⟨0,[],[],0,[],[],[],0,0⟩⟩
inductive Mc where
 | sweep (t n:Int) (y:SWS)
 | ensure (t n:Int) (e:ENS)
 | store (t n:Int) (s:STS)
 | clear (t n:Int) (x:CLS)
 | prepare (t n:Int) (x:PRS)
 | head (t n:Int) (x:HDS)
 | drop (t n:Int) (x:DRS)
 | announce (t n:Int) (x:ANS)
 | answer (t n:Int) (x:AWS)
 | exec (t n:Int) (x:EXS)
 | find (t n:Int) (x:FNS)
 | fast (t n:Int) (x:FTS)
 | help (t n:Int) (x:HPS)
 | doer (t n:Int) (x:DOS)
 | hist (x:HST)
 | worker (x:WKS)
 | wrow (ws:List WKS)
 | whole (ws:List WKS) (i:Nat)
 | orow (ws:List (List (List Int)))
 | ohole (ws:List (List (List Int))) (i:Nat)
 | engine (x:EGS)
abbrev Ob:=Mc
def ZD(t n:Int)(x:AL):Option (aG Mc):=some (.cells [.int .i64 t,.int .i64 n,.int .i64 x.got,.int .i64 x.at',.int .i64 x.left,.int .u64 x.found,.bool x.free])
def MC(t n:Int)(y:SWS):aC Mc:=match y.ph with
 | 0=>[some (.cells [.ptr 1 0,.raw (.pointer none)]),none]
 | 1=>[some (.cells [.ptr 1 0,.ptr 2 0]),none,some (.cells [.int .i64 t,.int .i64 n,.raw (.slice none 0 0),.raw (.slice none 0 0),.slice 3 0 y.N.length 1,.map 4,.int .i64 y.i,.raw (.pointer none)]),some (.ints (some .i64) y.N),some (.imap .i64 none y.m)]
 | 2=>[some (.cells [.ptr 1 0,.ptr 2 0]),none,some (.cells [.int .i64 t,.int .i64 n,.slice 3 0 y.ks.length 1,.slice 4 0 y.fs.length 1,.slice 5 0 y.N.length 1,.map 6,.int .i64 y.i,.ptr 7 0]),some (.ints (some .i64) y.ks),some (.ints (some .i64) y.fs),some (.ints (some .i64) y.N),some (.imap .i64 none y.m),some (.cells [.int .i64 t,.int .i64 n,.slice 8 y.j y.l 1]),some (.ints (some .i64) y.gs)]
 | _=>[some (.cells [.ptr 1 0,.O]),none]
def DU(t n:Int)(e:ENS):aC Mc:=match e.ph with
 | 0=>[some (.cells [.ptr 1 0,.bool e.sh,.raw (.pointer none),.raw (.pointer none),.bool e.dn]),none]
 | 1=>[some (.cells [.ptr 1 0,.bool e.sh,.ptr 2 0,.raw (.pointer none),.bool e.dn]),none,ZD t n e.x]
 | 2=>[some (.cells [.ptr 1 0,.bool e.sh,.ptr 2 0,.ptr 3 0,.bool e.dn]),none,ZD t n e.x,some (.cells [.ptr 1 0,.raw (.pointer none)])]
 | 3=>[some (.cells [.ptr 1 0,.bool e.sh,.ptr 2 0,.ptr 3 0,.bool e.dn]),none,ZD t n e.x,some (.cells [.ptr 1 0,.ptr 4 0]),some (.cells [.int .i64 t,.int .i64 n,.raw (.slice none 0 0),.raw (.slice none 0 0),.slice 5 0 e.y.N.length 1,.map 6,.int .i64 e.y.i,.raw (.pointer none)]),some (.ints (some .i64) e.y.N),some (.imap .i64 none e.y.m)]
 | _=>[some (.cells [.ptr 1 0,.bool e.sh,.ptr 2 0,.ptr 3 0,.bool e.dn]),none,ZD t n e.x,some (.cells [.ptr 1 0,.ptr 4 0]),some (.cells [.int .i64 t,.int .i64 n,.slice 5 0 e.y.ks.length 1,.slice 6 0 e.y.fs.length 1,.slice 7 0 e.y.N.length 1,.map 8,.int .i64 e.y.i,.ptr 9 0]),some (.ints (some .i64) e.y.ks),some (.ints (some .i64) e.y.fs),some (.ints (some .i64) e.y.N),some (.imap .i64 none e.y.m),some (.cells [.int .i64 t,.int .i64 n,.slice 10 e.y.j e.y.l 1]),some (.ints (some .i64) e.y.gs)]
def dM(t n:Int)(s:STS):aC Mc:=[some (.cells [.int .i64 t,.int .i64 n,.int .i64 s.me,.int .i64 s.sp,.slice 1 0 s.R.length 1]),some (.ints (some .i64) s.R)]
theorem bI{a b:Int}(h:a≠b):ieq a b=false:=by
 rw [cF];simpa using h
abbrev lW(t n:Int)(x:CLS):aC Mc:=[some (.cells [.int .i64 t,.int .i64 n,.int .i64 x.addr,.int .i64 x.at',.int .u64 x.word,.int .u64 x.found])]
def aAT(t n:Int)(x:CLS):aC Mc:=lW t n x
abbrev rC(t n:Int)(x:PRS):aC Mc:=[some (.cells [.ptr 1 0,.int .i64 x.key,.int .i64 x.nxt,.int .u64 x.found,.bool x.loaded]),none]
def QN(t n:Int)(x:PRS):aC Mc:=rC t n x
abbrev yY(t n:Int)(x:HDS):aC Mc:=[some (.cells [.int .i64 t,.int .i64 n,.int .i64 x.u,.int .u64 x.no,.int .i64 x.at',.bool x.tk])]
def aFk(t n:Int)(x:HDS):aC Mc:=yY t n x
abbrev yN(t n:Int)(x:DRS):aC Mc:=[some (.cells [.int .i64 t,.int .i64 n,.int .i64 x.th,.int .i64 x.at'])]
def aEs(t n:Int)(x:DRS):aC Mc:=yN t n x
abbrev eU(t n:Int)(x:ANS):aC Mc:=[some (.cells [.int .i64 t,.int .i64 n,.int .u64 x.no,.int .i64 x.me,.int .i64 x.at',.int .u64 x.bits,.bool x.wrong,.int .u64 x.found])]
def JF(t n:Int)(x:ANS):aC Mc:=eU t n x
abbrev pN(t n:Int)(x:AWS):aC Mc:=[some (.cells [.int .i64 t,.int .i64 n,.int .i64 x.code,.bool x.okk,.int .i64 x.val,.int .i64 x.me])]
def TF(t n:Int)(x:AWS):aC Mc:=pN t n x
abbrev gR(t n:Int)(x:EXS):aC Mc:=[some (.cells [.int .i64 t,.int .i64 n,.int .i64 x.popped,.int .i64 x.gave,.int .i64 x.u,.int .i64 x.sh,.int .i64 x.kd,.int .i64 x.ky,.bool x.only,.int .i64 x.att,.int .i64 x.at',.int .u64 x.found,.int .u64 x.word])]
def aET(t n:Int)(x:EXS):aC Mc:=gR t n x
abbrev kX(t n:Int)(x:FNS):aC Mc:=[some (.cells [.int .i64 t,.int .i64 n,.int .i64 x.pred,.int .u64 x.pw,.int .i64 x.curr,.int .u64 x.cw,.int .i64 x.tries,.slice 1 0 x.ul.length 1,.bool x.ab,.int .i64 x.me,.int .i64 x.frm,.int .i64 x.key,.int .i64 x.limit,.int .i64 x.at',.int .i64 x.moved,.O]),some (.ints (some .i64) x.ul)]
abbrev pV(t n:Int)(x:FNS):aC Mc:=[some (.cells [.int .i64 t,.int .i64 n,.int .i64 x.pred,.int .u64 x.pw,.int .i64 x.curr,.int .u64 x.cw,.int .i64 x.tries,.slice 1 0 x.ul.length 1,.bool x.ab,.int .i64 x.me,.int .i64 x.frm,.int .i64 x.key,.int .i64 x.limit,.int .i64 x.at',.int .i64 x.moved,.ptr 2 0]),some (.ints (some .i64) x.ul),some (.abs (.clear t n x.cl) [])]
def uH(t n:Int)(x:FNS):aC Mc:=bif ieq x.at' 4 then pV t n x else kX t n x
theorem iK{t n:Int}{x:FNS}(h:x.at'≠4):uH t n x=kX t n x:=by
 have h4:=h;unfold uH;rw [bI h4];rfl
theorem HS{t n:Int}{x:FNS}(h:x.at'=4):uH t n x=pV t n x:=by
 unfold uH;rw [h];rfl
abbrev FF(t n:Int)(x:FTS):aC Mc:=[some (.cells [.ptr 1 0,.int .i64 x.code,.bool x.okk,.int .i64 x.val,.bool x.failed,.int .i64 x.tries,.int .i64 x.sh,.int .i64 x.kd,.int .i64 x.ky,.int .i64 x.most,.int .i64 x.at',.bool x.p.now,.int .i64 x.p.code,.bool x.p.okk,.int .i64 x.p.val,.int .i64 x.p.addr,.int .u64 x.p.old,.int .i64 x.p.nxt,.bool x.p.mark,.int .i64 x.p.pops,.O,.O,.O]),none]
abbrev pU(t n:Int)(x:FTS):aC Mc:=[some (.cells [.ptr 1 0,.int .i64 x.code,.bool x.okk,.int .i64 x.val,.bool x.failed,.int .i64 x.tries,.int .i64 x.sh,.int .i64 x.kd,.int .i64 x.ky,.int .i64 x.most,.int .i64 x.at',.bool x.p.now,.int .i64 x.p.code,.bool x.p.okk,.int .i64 x.p.val,.int .i64 x.p.addr,.int .u64 x.p.old,.int .i64 x.p.nxt,.bool x.p.mark,.int .i64 x.p.pops,.ptr 2 0,.O,.O]),none,some (.abs (.find t n x.fn) [])]
abbrev uE(t n:Int)(x:FTS):aC Mc:=[some (.cells [.ptr 1 0,.int .i64 x.code,.bool x.okk,.int .i64 x.val,.bool x.failed,.int .i64 x.tries,.int .i64 x.sh,.int .i64 x.kd,.int .i64 x.ky,.int .i64 x.most,.int .i64 x.at',.bool x.p.now,.int .i64 x.p.code,.bool x.p.okk,.int .i64 x.p.val,.int .i64 x.p.addr,.int .u64 x.p.old,.int .i64 x.p.nxt,.bool x.p.mark,.int .i64 x.p.pops,.O,.ptr 2 0,.O]),none,some (.abs (.clear t n x.cl) [])]
abbrev uF(t n:Int)(x:FTS):aC Mc:=[some (.cells [.ptr 1 0,.int .i64 x.code,.bool x.okk,.int .i64 x.val,.bool x.failed,.int .i64 x.tries,.int .i64 x.sh,.int .i64 x.kd,.int .i64 x.ky,.int .i64 x.most,.int .i64 x.at',.bool x.p.now,.int .i64 x.p.code,.bool x.p.okk,.int .i64 x.p.val,.int .i64 x.p.addr,.int .u64 x.p.old,.int .i64 x.p.nxt,.bool x.p.mark,.int .i64 x.p.pops,.O,.O,.ptr 2 0]),none,some (.abs (.prepare t n x.pr) [1])]
def m8(t n:Int)(x:FTS):aC Mc:=bif ieq x.at' 0 then pU t n x else bif ieq x.at' 1 then uE t n x else bif ieq x.at' 2 then uF t n x else FF t n x
theorem BS{t n:Int}{x:FTS}(h:x.at'≠0∧x.at'≠1∧x.at'≠2):m8 t n x=FF t n x:=by
 have ⟨h0,h1,h2⟩:=h;unfold m8;rw [bI h0,bI h1,bI h2];rfl
theorem yU{t n:Int}{x:FTS}(h:x.at'=0):m8 t n x=pU t n x:=by
 unfold m8;rw [h];rfl
theorem HQ{t n:Int}{x:FTS}(h:x.at'=1):m8 t n x=uE t n x:=by
 unfold m8;rw [h];rfl
theorem HR{t n:Int}{x:FTS}(h:x.at'=2):m8 t n x=uF t n x:=by
 unfold m8;rw [h];rfl
abbrev nB(t n:Int)(x:HPS):aC Mc:=[some (.cells [.ptr 1 0,.int .i64 x.u,.int .u64 x.no,.int .i64 x.rounds,.int .i64 x.limit,.int .i64 x.at',.int .u64 x.found,.int .i64 x.sh,.int .i64 x.kd,.int .i64 x.ky,.bool x.p.now,.int .i64 x.p.code,.bool x.p.okk,.int .i64 x.p.val,.int .i64 x.p.addr,.int .u64 x.p.old,.int .i64 x.p.nxt,.bool x.p.mark,.int .i64 x.p.pops,.O,.O,.O,.O,.O]),none]
abbrev uP(t n:Int)(x:HPS):aC Mc:=[some (.cells [.ptr 1 0,.int .i64 x.u,.int .u64 x.no,.int .i64 x.rounds,.int .i64 x.limit,.int .i64 x.at',.int .u64 x.found,.int .i64 x.sh,.int .i64 x.kd,.int .i64 x.ky,.bool x.p.now,.int .i64 x.p.code,.bool x.p.okk,.int .i64 x.p.val,.int .i64 x.p.addr,.int .u64 x.p.old,.int .i64 x.p.nxt,.bool x.p.mark,.int .i64 x.p.pops,.ptr 2 0,.O,.O,.O,.O]),none,some (.abs (.exec t n x.ex) [])]
abbrev uO(t n:Int)(x:HPS):aC Mc:=[some (.cells [.ptr 1 0,.int .i64 x.u,.int .u64 x.no,.int .i64 x.rounds,.int .i64 x.limit,.int .i64 x.at',.int .u64 x.found,.int .i64 x.sh,.int .i64 x.kd,.int .i64 x.ky,.bool x.p.now,.int .i64 x.p.code,.bool x.p.okk,.int .i64 x.p.val,.int .i64 x.p.addr,.int .u64 x.p.old,.int .i64 x.p.nxt,.bool x.p.mark,.int .i64 x.p.pops,.O,.ptr 2 0,.O,.O,.O]),none,some (.abs (.ensure t n x.en) [1])]
abbrev uQ(t n:Int)(x:HPS):aC Mc:=[some (.cells [.ptr 1 0,.int .i64 x.u,.int .u64 x.no,.int .i64 x.rounds,.int .i64 x.limit,.int .i64 x.at',.int .u64 x.found,.int .i64 x.sh,.int .i64 x.kd,.int .i64 x.ky,.bool x.p.now,.int .i64 x.p.code,.bool x.p.okk,.int .i64 x.p.val,.int .i64 x.p.addr,.int .u64 x.p.old,.int .i64 x.p.nxt,.bool x.p.mark,.int .i64 x.p.pops,.O,.O,.ptr 2 0,.O,.O]),none,some (.abs (.find t n x.fn) [])]
abbrev uN(t n:Int)(x:HPS):aC Mc:=[some (.cells [.ptr 1 0,.int .i64 x.u,.int .u64 x.no,.int .i64 x.rounds,.int .i64 x.limit,.int .i64 x.at',.int .u64 x.found,.int .i64 x.sh,.int .i64 x.kd,.int .i64 x.ky,.bool x.p.now,.int .i64 x.p.code,.bool x.p.okk,.int .i64 x.p.val,.int .i64 x.p.addr,.int .u64 x.p.old,.int .i64 x.p.nxt,.bool x.p.mark,.int .i64 x.p.pops,.O,.O,.O,.ptr 2 0,.O]),none,some (.abs (.clear t n x.cl) [])]
abbrev uR(t n:Int)(x:HPS):aC Mc:=[some (.cells [.ptr 1 0,.int .i64 x.u,.int .u64 x.no,.int .i64 x.rounds,.int .i64 x.limit,.int .i64 x.at',.int .u64 x.found,.int .i64 x.sh,.int .i64 x.kd,.int .i64 x.ky,.bool x.p.now,.int .i64 x.p.code,.bool x.p.okk,.int .i64 x.p.val,.int .i64 x.p.addr,.int .u64 x.p.old,.int .i64 x.p.nxt,.bool x.p.mark,.int .i64 x.p.pops,.O,.O,.O,.O,.ptr 2 0]),none,some (.abs (.prepare t n x.pr) [1])]
def jV(t n:Int)(x:HPS):aC Mc:=bif ieq x.at' 3 then uP t n x else bif ieq x.at' 4 then uO t n x else bif ieq x.at' 5 then uQ t n x else bif ieq x.at' 7 then uN t n x else bif ieq x.at' 8 then uR t n x else nB t n x
theorem jW{t n:Int}{x:HPS}(h:x.at'≠3∧x.at'≠4∧x.at'≠5∧x.at'≠7∧x.at'≠8):jV t n x=nB t n x:=by
 have ⟨h3,h4,h5,h7,h8⟩:=h;unfold jV;rw [bI h3,bI h4,bI h5,bI h7,bI h8];rfl
theorem IB{t n:Int}{x:HPS}(h:x.at'=3):jV t n x=uP t n x:=by
 unfold jV;rw [h];rfl
theorem IC{t n:Int}{x:HPS}(h:x.at'=4):jV t n x=uO t n x:=by
 unfold jV;rw [h];rfl
theorem ID{t n:Int}{x:HPS}(h:x.at'=5):jV t n x=uQ t n x:=by
 unfold jV;rw [h];rfl
theorem IE{t n:Int}{x:HPS}(h:x.at'=7):jV t n x=uN t n x:=by
 unfold jV;rw [h];rfl
theorem IF{t n:Int}{x:HPS}(h:x.at'=8):jV t n x=uR t n x:=by
 unfold jV;rw [h];rfl
abbrev oX(t n:Int)(x:DOS):aC Mc:=[some (.cells [.ptr 1 0,.int .i64 x.code,.bool x.okk,.int .i64 x.val,.bool x.slow,.int .i64 x.sh,.int .i64 x.kd,.int .i64 x.ky,.int .i64 x.limit,.int .i64 x.at',.O,.O,.O,.O,.O,.O,.O,.O,.O]),none]
abbrev gA(t n:Int)(x:DOS):aC Mc:=[some (.cells [.ptr 1 0,.int .i64 x.code,.bool x.okk,.int .i64 x.val,.bool x.slow,.int .i64 x.sh,.int .i64 x.kd,.int .i64 x.ky,.int .i64 x.limit,.int .i64 x.at',.ptr 2 0,.O,.O,.O,.O,.O,.O,.O,.O]),none,some (.abs (.head t n x.hd) [])]
abbrev d5(t n:Int)(x:DOS):aC Mc:=[some (.cells [.ptr 1 0,.int .i64 x.code,.bool x.okk,.int .i64 x.val,.bool x.slow,.int .i64 x.sh,.int .i64 x.kd,.int .i64 x.ky,.int .i64 x.limit,.int .i64 x.at',.O,.ptr 2 0,.O,.O,.O,.O,.O,.O,.O]),none,some (.abs (.help t n x.hp) [1])]
abbrev iG(t n:Int)(x:DOS):aC Mc:=[some (.cells [.ptr 1 0,.int .i64 x.code,.bool x.okk,.int .i64 x.val,.bool x.slow,.int .i64 x.sh,.int .i64 x.kd,.int .i64 x.ky,.int .i64 x.limit,.int .i64 x.at',.O,.O,.ptr 2 0,.O,.O,.O,.O,.O,.O]),none,some (.abs (.ensure t n x.en) [1])]
abbrev iI(t n:Int)(x:DOS):aC Mc:=[some (.cells [.ptr 1 0,.int .i64 x.code,.bool x.okk,.int .i64 x.val,.bool x.slow,.int .i64 x.sh,.int .i64 x.kd,.int .i64 x.ky,.int .i64 x.limit,.int .i64 x.at',.O,.O,.O,.ptr 2 0,.O,.O,.O,.O,.O]),none,some (.abs (.fast t n x.ft) [1])]
abbrev iD(t n:Int)(x:DOS):aC Mc:=[some (.cells [.ptr 1 0,.int .i64 x.code,.bool x.okk,.int .i64 x.val,.bool x.slow,.int .i64 x.sh,.int .i64 x.kd,.int .i64 x.ky,.int .i64 x.limit,.int .i64 x.at',.O,.O,.O,.O,.ptr 2 0,.O,.O,.O,.O]),none,some (.abs (.announce t n x.an) [])]
abbrev iE(t n:Int)(x:DOS):aC Mc:=[some (.cells [.ptr 1 0,.int .i64 x.code,.bool x.okk,.int .i64 x.val,.bool x.slow,.int .i64 x.sh,.int .i64 x.kd,.int .i64 x.ky,.int .i64 x.limit,.int .i64 x.at',.O,.O,.O,.O,.O,.ptr 2 0,.O,.O,.O]),none,some (.abs (.answer t n x.aw) [])]
abbrev iH(t n:Int)(x:DOS):aC Mc:=[some (.cells [.ptr 1 0,.int .i64 x.code,.bool x.okk,.int .i64 x.val,.bool x.slow,.int .i64 x.sh,.int .i64 x.kd,.int .i64 x.ky,.int .i64 x.limit,.int .i64 x.at',.O,.O,.O,.O,.O,.O,.ptr 2 0,.O,.O]),none,some (.abs (.find t n x.fn) [])]
abbrev iF(t n:Int)(x:DOS):aC Mc:=[some (.cells [.ptr 1 0,.int .i64 x.code,.bool x.okk,.int .i64 x.val,.bool x.slow,.int .i64 x.sh,.int .i64 x.kd,.int .i64 x.ky,.int .i64 x.limit,.int .i64 x.at',.O,.O,.O,.O,.O,.O,.O,.ptr 2 0,.O]),none,some (.abs (.drop t n x.dr) [])]
abbrev iJ(t n:Int)(x:DOS):aC Mc:=[some (.cells [.ptr 1 0,.int .i64 x.code,.bool x.okk,.int .i64 x.val,.bool x.slow,.int .i64 x.sh,.int .i64 x.kd,.int .i64 x.ky,.int .i64 x.limit,.int .i64 x.at',.O,.O,.O,.O,.O,.O,.O,.O,.ptr 2 0]),none,some (.abs (.sweep t n x.sw) [1])]
def eJ(t n:Int)(x:DOS):aC Mc:=bif ieq x.at' 0 then gA t n x else bif ieq x.at' 1 then d5 t n x else bif ieq x.at' 5 then d5 t n x else bif ieq x.at' 2 then iG t n x else bif ieq x.at' 3 then iI t n x else bif ieq x.at' 4 then iD t n x else bif ieq x.at' 6 then iE t n x else bif ieq x.at' 7 then iH t n x else bif ieq x.at' 8 then iF t n x else bif ieq x.at' 9 then iJ t n x else oX t n x
theorem t8{t n:Int}{x:DOS}(h:x.at'≠0∧x.at'≠1∧x.at'≠5∧x.at'≠2∧x.at'≠3∧x.at'≠4∧x.at'≠6∧x.at'≠7∧x.at'≠8∧x.at'≠9):eJ t n x=oX t n x:=by
 have ⟨h0,h1,h5,h2,h3,h4,h6,h7,h8,h9⟩:=h;unfold eJ;rw [bI h0,bI h1,bI h5,bI h2,bI h3,bI h4,bI h6,bI h7,bI h8,bI h9];rfl
theorem pT{t n:Int}{x:DOS}(h:x.at'=0):eJ t n x=gA t n x:=by
 unfold eJ;rw [h];rfl
theorem sS{t n:Int}{x:DOS}(h:x.at'=1):eJ t n x=d5 t n x:=by
 unfold eJ;rw [h];rfl
theorem sW{t n:Int}{x:DOS}(h:x.at'=5):eJ t n x=d5 t n x:=by
 unfold eJ;rw [h];rfl
theorem sT{t n:Int}{x:DOS}(h:x.at'=2):eJ t n x=iG t n x:=by
 unfold eJ;rw [h];rfl
theorem sU{t n:Int}{x:DOS}(h:x.at'=3):eJ t n x=iI t n x:=by
 unfold eJ;rw [h];rfl
theorem sV{t n:Int}{x:DOS}(h:x.at'=4):eJ t n x=iD t n x:=by
 unfold eJ;rw [h];rfl
theorem sX{t n:Int}{x:DOS}(h:x.at'=6):eJ t n x=iE t n x:=by
 unfold eJ;rw [h];rfl
theorem sY{t n:Int}{x:DOS}(h:x.at'=7):eJ t n x=iH t n x:=by
 unfold eJ;rw [h];rfl
theorem sZ{t n:Int}{x:DOS}(h:x.at'=8):eJ t n x=iF t n x:=by
 unfold eJ;rw [h];rfl
theorem s6{t n:Int}{x:DOS}(h:x.at'=9):eJ t n x=iJ t n x:=by
 unfold eJ;rw [h];rfl
abbrev evK:List Code1:=[some .i64,none,some .i64,some .i64,some .i64,none,some .i64]
abbrev clK:List Code1:=[some .i64,some .i64,some .i64,some .i64,some .i64,some .i64,some .i64,none,some .i64]
abbrev tkK:List Code1:=[some .i64,some .i64,some .i64]
def zX(x:HST):aC Mc:=[some (.cells [.tslice 1 0 x.ev.length 7,.tslice 2 0 x.cl.length 9,.int .i64 x.n0,.int .i64 x.n1,.int .i64 x.n2,.int .i64 x.n3,.int .i64 x.n4,.int .i64 x.n5,.int .i64 x.n6,.int .i64 x.n7]),some (.tab evK x.ev),some (.tab clK x.cl)]
abbrev mF(x:WKS):aC Mc:=[some (.cells [.ptr 1 0,.tslice 2 0 x.tk.length 3,.int .i64 x.en,.raw (.pointer none),.slice 3 0 x.tl.length 1,.slice 4 0 x.sl.length 1]),some (.abs (.store x.t x.n x.st) []),some (.tab tkK x.tk),some (.ints (some .i64) x.tl),some (.ints (some .i64) x.sl)]
abbrev pK(x:WKS):aC Mc:=[some (.cells [.ptr 1 0,.tslice 2 0 x.tk.length 3,.int .i64 x.en,.ptr 3 0,.slice 4 0 x.tl.length 1,.slice 5 0 x.sl.length 1]),some (.abs (.store x.t x.n x.st) []),some (.tab tkK x.tk),some (.abs (.doer x.t x.n x.d) [1]),some (.ints (some .i64) x.tl),some (.ints (some .i64) x.sl)]
def wkG(x:WKS):aC Mc:=bif x.b then pK x else mF x
theorem oQ{x:WKS}(h:x.b=false):wkG x=mF x:=by unfold wkG;rw [h];rfl
theorem v7{x:WKS}(h:x.b=true):wkG x=pK x:=by unfold wkG;rw [h];rfl
def egG(x:EGS):aC Mc:=[some (.cells [.int .i64 x.sh,.int .i64 x.th,.int .i64 x.nd,.int .i64 x.tr,.ptr 1 0,.ptr 3 0,.slice 4 0 x.ws.length 1,.int .i64 x.k]),some (.cells [.int .i64 x.s.t,.int .i64 x.s.n,.slice 2 0 x.s.xs.length 1,.int .i64 x.s.c,.int .i64 x.s.k,.int .i64 x.s.a,.int .u64 x.s.o,.int .u64 x.s.w,.bool x.s.ok]),some (.ints (some .u64) x.s.xs),some (.abs (.hist x.h) []),some (.abs (.wrow x.ws) [])]
abbrev opK:List Code1:=[some .i64,some .i64]
def opE:wN Mc where
 X:=List (List Int)
 hd:=fun k xs=>.tslice k 0 xs.length 2
 en:=fun xs=>.tab opK xs
def tbl:Mc→Nat×aC Mc
 | .sweep t n y=>(1,MC t n y)
 | .ensure t n e=>(1,DU t n e)
 | .store t n s=>(0,dM t n s)
 | .clear t n x=>(0,aAT t n x)
 | .prepare t n x=>(1,QN t n x)
 | .head t n x=>(0,aFk t n x)
 | .drop t n x=>(0,aEs t n x)
 | .announce t n x=>(0,JF t n x)
 | .answer t n x=>(0,TF t n x)
 | .exec t n x=>(0,aET t n x)
 | .find t n x=>(0,uH t n x)
 | .fast t n x=>(1,m8 t n x)
 | .help t n x=>(1,jV t n x)
 | .doer t n x=>(1,eJ t n x)
 | .hist x=>(0,zX x)
 | .worker x=>(0,wkG x)
 | .wrow ws=>(0,rowE (ws.map fun w=>some (.worker w)))
 | .whole ws i=>(1,kL (ws.map fun w=>some (.worker w)) i)
 | .engine x=>(0,egG x)
 | .orow ws=>(0,fF opE ws)
 | .ohole ws i=>(1,fM opE ws i)
def memH(s:MS):aC Ob:=[some (.cells [.int .i64 s.t,.int .i64 s.n,.slice 1 0 s.xs.length 1,.int .i64 s.c,.int .i64 s.k,.int .i64 s.a,.int .u64 s.o,.int .u64 s.w,.bool s.ok]),some (.ints (some .u64) s.xs)]
noncomputable def E0:Env Ob Tryz.prog where
 I:=obI tbl
 cps:=fun _=>none
 det:=fun _=>none
 meth:=FZ Tryz.prog
 cpsOk:=by intro f S h;cases h
 detOk:=by intro f S h;cases h
 methOk:=fun t n f h v w _=>F0 h v w
theorem aM{b:Bool}{X Y:Prop}(h1:b=true→X)(h2:b=false→Y):cond b X Y:=aR h1 h2
def laySizeS:aH Ob:=fun args h=>match args,h with
 | [.agg [.int .i64 t,.int .i64 n]],[]=>some (.pre ((0≤t∧t≤100000)∧(0≤n∧n≤100000)) (.ret (.int .i64 (2*n+5*t+6)) []))
 | _,_=>none
theorem FU:aH.ok E0.I Tryz.prog 100 laySizeS:=by
 intro args h o ho K hK;unfold laySizeS at ho;split at ho<;>cases ho
 rename_i t n;obtain⟨hp,hK⟩:=hK;have hK:K (.int .i64 (2*n+5*t+6)) []:=hK;refine aIl (aD (E:=E0) Tryz.checked.mixed (L:=fun _ _=>none) (n:=10) (aK (q:=K (.int .i64 (W (W (W (W (W (W (W (W (W (1+n)+4)+W (n+1)) - 1)+W (2*t))+0)+W (3*t))+0)+1))) []) (by kernel_rfl) ?_))
 simp(disch:=omega) only [W,cW]
 refine cast (congrArg (fun z=>K (AVal.int .i64 z) []) ?_) hK;omega
def layLifeS:aH Ob:=fun args h=>match args,h with
 | [.agg [.int .i64 t,.int .i64 n],.int .i64 a],[]=>some (.pre ((0≤t∧t≤100000)∧(0≤n∧n≤100000)∧(-1099511627776≤a∧a≤1099511627776)) (.ret (.int .i64 (n+4+a)) []))
 | _,_=>none
theorem FS:aH.ok E0.I Tryz.prog 56 layLifeS:=by
 intro args h o ho K hK;unfold layLifeS at ho;split at ho<;>cases ho
 rename_i t n a;obtain⟨hp,hK⟩:=hK;have hK:K (.int .i64 (n+4+a)) []:=hK;refine aIl (aD (E:=E0) Tryz.checked.mixed (L:=fun _ _=>none) (n:=10) (aK (q:=K (.int .i64 (W (W (W (W (1+n)+4)+a) - 1))) []) (by kernel_rfl) ?_))
 simp(disch:=omega) only [W,cW]
 refine cast (congrArg (fun z=>K (AVal.int .i64 z) []) ?_) hK;omega
def laySlotS:aH Ob:=fun args h=>match args,h with
 | [.agg [.int .i64 t,.int .i64 n],.int .i64 a,.int .i64 b],[]=>some (.pre ((0≤t∧t≤100000)∧(0≤n∧n≤100000)∧(-1099511627776≤a∧a≤1099511627776)∧(-1099511627776≤b∧b≤1099511627776)) (.ret (.int .i64 (2*n+5+2*a+b)) []))
 | _,_=>none
theorem FV:aH.ok E0.I Tryz.prog 127 laySlotS:=by
 intro args h o ho K hK;unfold laySlotS at ho;split at ho<;>cases ho
 rename_i t n a b;obtain⟨hp,hK⟩:=hK;have hK:K (.int .i64 (2*n+5+2*a+b)) []:=hK;refine aIl (aD (E:=E0) Tryz.checked.mixed (L:=fun _ _=>none) (n:=10) (aK (q:=K (.int .i64 (W (W (W (W (W (W (1+n)+4)+W (n+1)) - 1)+W (2*a))+b))) []) (by kernel_rfl) ?_))
 simp(disch:=omega) only [W,cW]
 refine cast (congrArg (fun z=>K (AVal.int .i64 z) []) ?_) hK;omega
def layDescS:aH Ob:=fun args h=>match args,h with
 | [.agg [.int .i64 t,.int .i64 n],.int .i64 a],[]=>some (.pre ((0≤t∧t≤100000)∧(0≤n∧n≤100000)∧(-1099511627776≤a∧a≤1099511627776)) (.ret (.int .i64 (2*n+5+2*t+3*a+2)) []))
 | _,_=>none
theorem FR:aH.ok E0.I Tryz.prog 191 layDescS:=by
 intro args h o ho K hK;unfold layDescS at ho;split at ho<;>cases ho
 rename_i t n a;obtain⟨hp,hK⟩:=hK;have hK:K (.int .i64 (2*n+5+2*t+3*a+2)) []:=hK;refine aIl (aD (E:=E0) Tryz.checked.mixed (L:=fun _ _=>none) (n:=10) (aK (q:=K (.int .i64 (W (W (W (W (W (W (W (W (1+n)+4)+W (n+1)) - 1)+W (2*t))+0)+W (3*a))+2))) []) (by kernel_rfl) ?_))
 simp(disch:=omega) only [W,cW]
 refine cast (congrArg (fun z=>K (AVal.int .i64 z) []) ?_) hK;omega
def layTaskS:aH Ob:=fun args h=>match args,h with
 | [.agg [.int .i64 t,.int .i64 n],.int .i64 a],[]=>some (.pre ((0≤t∧t≤100000)∧(0≤n∧n≤100000)∧(-1099511627776≤a∧a≤1099511627776)) (.ret (.int .i64 (2*n+5+2*t+3*a+1)) []))
 | _,_=>none
theorem FX:aH.ok E0.I Tryz.prog 198 layTaskS:=by
 intro args h o ho K hK;unfold layTaskS at ho;split at ho<;>cases ho
 rename_i t n a;obtain⟨hp,hK⟩:=hK;have hK:K (.int .i64 (2*n+5+2*t+3*a+1)) []:=hK;refine aIl (aD (E:=E0) Tryz.checked.mixed (L:=fun _ _=>none) (n:=10) (aK (q:=K (.int .i64 (W (W (W (W (W (W (W (W (1+n)+4)+W (n+1)) - 1)+W (2*t))+0)+W (3*a))+1))) []) (by kernel_rfl) ?_))
 simp(disch:=omega) only [W,cW]
 refine cast (congrArg (fun z=>K (AVal.int .i64 z) []) ?_) hK;omega
def layTicketS:aH Ob:=fun args h=>match args,h with
 | [.agg [.int .i64 t,.int .i64 n],.int .i64 a],[]=>some (.pre ((0≤t∧t≤100000)∧(0≤n∧n≤100000)∧(-1099511627776≤a∧a≤1099511627776)) (.ret (.int .i64 (2*n+5+2*t+3*a)) []))
 | _,_=>none
theorem yZ:aH.ok E0.I Tryz.prog 194 layTicketS:=by
 intro args h o ho K hK;unfold layTicketS at ho;split at ho<;>cases ho
 rename_i t n a;obtain⟨hp,hK⟩:=hK;have hK:K (.int .i64 (2*n+5+2*t+3*a)) []:=hK;refine aIl (aD (E:=E0) Tryz.checked.mixed (L:=fun _ _=>none) (n:=10) (aK (q:=K (.int .i64 (W (W (W (W (W (W (W (W (1+n)+4)+W (n+1)) - 1)+W (2*t))+0)+W (3*a))+0))) []) (by kernel_rfl) ?_))
 simp(disch:=omega) only [W,cW]
 refine cast (congrArg (fun z=>K (AVal.int .i64 z) []) ?_) hK;omega
def layCounterS:aH Ob:=fun args h=>match args,h with
 | [.agg [.int .i64 t,.int .i64 n]],[]=>some (.pre ((0≤t∧t≤100000)∧(0≤n∧n≤100000)) (.ret (.int .i64 (2*n+5+2*t+3*t)) []))
 | _,_=>none
theorem wJ:aH.ok E0.I Tryz.prog 39 layCounterS:=by
 intro args h o ho K hK;unfold layCounterS at ho;split at ho<;>cases ho
 rename_i t n;obtain⟨hp,hK⟩:=hK;have hK:K (.int .i64 (2*n+5+2*t+3*t)) []:=hK;refine aIl (aD (E:=E0) Tryz.checked.mixed (L:=fun _ _=>none) (n:=10) (aK (q:=K (.int .i64 (W (W (W (W (W (W (W (W (1+n)+4)+W (n+1)) - 1)+W (2*t))+0)+W (3*t))+0))) []) (by kernel_rfl) ?_))
 simp(disch:=omega) only [W,cW]
 refine cast (congrArg (fun z=>K (AVal.int .i64 z) []) ?_) hK;omega
def slotsS:aH Ob:=fun args h=>match args,h with
 | [.agg [.int .i64 t,.int .i64 n]],[]=>some (.pre ((0≤t∧t≤100000)∧(0≤n∧n≤100000)) (.ret (.int .i64 (2*t)) []))
 | _,_=>none
theorem RD:aH.ok E0.I Tryz.prog 273 slotsS:=by
 intro args h o ho K hK;unfold slotsS at ho;split at ho<;>cases ho
 rename_i t n;obtain⟨hp,hK⟩:=hK;have hK:K (.int .i64 (2*t)) []:=hK;refine aIl (aD (E:=E0) Tryz.checked.mixed (L:=fun _ _=>none) (n:=10) (aK (q:=K (.int .i64 (W (2*t))) []) (by kernel_rfl) ?_))
 simp(disch:=omega) only [W,cW]
 refine cast (congrArg (fun z=>K (AVal.int .i64 z) []) ?_) hK;omega
def eH(t n:Int):Bool:=ile 1 t&&ile t 8&&ile 1 n&&ile n 200
theorem sJ{t n:Int} :eH t n=true↔1≤t∧t≤8∧1≤n∧n≤200:=by
 unfold eH;simp only [bX,Bool.and_eq_true,dT'];omega
def bN(n a:Int):Bool:=ile 1 a&&ile a n
theorem uY{n a:Int} :bN n a=true↔1≤a∧a≤n:=by
 unfold bN;simp only [bX,Bool.and_eq_true,dT']
def layRightS:aH Ob:=fun args h=>match args,h with
 | [.agg [.int .i64 t,.int .i64 n]],[]=>some (.pre (True) (.ret (.bool (eH t n)) []))
 | _,_=>none
theorem CP:aH.ok E0.I Tryz.prog 126 layRightS:=by
 intro args h o ho K hK;unfold layRightS at ho;split at ho<;>cases ho
 rename_i t n;obtain⟨hp,hK⟩:=hK;have hK:K (.bool (eH t n)) []:=hK;refine aIl (aD (E:=E0) Tryz.checked.mixed (L:=fun _ _=>none) (n:=10) (aK (q:=bif ile 1 t then bif ile t 8 then bif ile 1 n then K (.bool (ile n 200)) []else K (.bool false) []else K (.bool false) []else K (.bool false) []) (by kernel_rfl) ?_))
 unfold eH at hK;refine aM (fun e1=>aM (fun e2=>aM (fun e3=>?_) (fun e3=>?_)) (fun e2=>?_)) (fun e1=>?_)
 all_goals (simp only [*,Bool.true_and,Bool.false_and,Bool.and_false]at hK;exact hK)
def layNodeS:aH Ob:=fun args h=>match args,h with
 | [.agg [.int .i64 t,.int .i64 n],.int .i64 a],[]=>some (.pre (True) (.ret (.bool (bN n a)) []))
 | _,_=>none
theorem FT:aH.ok E0.I Tryz.prog 116 layNodeS:=by
 intro args h o ho K hK;unfold layNodeS at ho;split at ho<;>cases ho
 rename_i t n a;obtain⟨hp,hK⟩:=hK;have hK:K (.bool (bN n a)) []:=hK;refine aIl (aD (E:=E0) Tryz.checked.mixed (L:=fun _ _=>none) (n:=10) (aK (q:=bif ile 1 a then K (.bool (ile a n)) []else K (.bool false) []) (by kernel_rfl) ?_))
 unfold bN at hK;refine aM (fun e1=>?_) (fun e1=>?_)
 all_goals (simp only [*,Bool.true_and,Bool.false_and,Bool.and_false]at hK;exact hK)
noncomputable def E1:=(((((((((E0.addS 100 laySizeS FU).addS 56 layLifeS FS).addS 127 laySlotS FV).addS 191 layDescS FR).addS 198 layTaskS FX).addS 194 layTicketS yZ).addS 39 layCounterS wJ).addS 273 slotsS RD).addS 126 layRightS CP).addS 116 layNodeS FT
def aE(xs:List Int)(a:Int):Int:=if 0≤a∧a<xs.length then xs.getD a.toNat 0 else 0
theorem IT{xs:List Int}{a:Int}(h:0≤a∧a<xs.length):aE xs a=xs.getD a.toNat 0:=if_pos h
theorem iP{xs:List Int}{a:Int}(h: ¬(0≤a∧a<xs.length)):aE xs a=0:=if_neg h
def bL(xs:List Int)(a:Int):Bool:=ile 0 a&&ilt a (xs.length:Int)
theorem nC{xs:List Int}{a:Int} :bL xs a=true↔0≤a∧a<xs.length:=by
 unfold bL;simp only [bX,bG,Bool.and_eq_true,dT']
def aG6(xs:List Int)(a x:Int):List Int:=xs.set a.toNat x
def MS.did(s:MS)(k a w:Int)(ok:Bool)(xs:List Int):MS:= {s with xs:=xs,c:=s.c+1,k:=k,a:=a,o:=aE s.xs a,w:=w,ok:=ok}
def MS.store(s:MS)(a x:Int):MS:=bif bL s.xs a then s.did 2 a x true (aG6 s.xs a x)else s.did 2 a 0 false s.xs
def pD(h:aC Ob):Option (Nat×MS):=match h with
 | [some (.cells [.int .i64 t,.int .i64 n,.slice 1 0 len 1,.int .i64 c,.int .i64 k,.int .i64 a,.int .u64 o,.int .u64 w,.bool ok]),some (.ints (some .u64) xs)]=>some (len,⟨t,n,xs,c,k,a,o,w,ok⟩)
 | _=>none
theorem lM{h:aC Ob}{l:Nat}{s:MS}(e:pD h=some (l,s))(hl:l=s.xs.length):h=memH s:=by
 unfold pD at e;split at e
 ·simp only [sI',pI']at e;obtain⟨rfl,rfl⟩:=e;simp only at hl;subst hl;rfl
 ·cases e
theorem uW(x:Nat):0+x*1=x:=by omega
def peekS:aH Ob:=fun args h=>match args,pD h with
 | [.ptr 0 0,.int .i64 a],some (l,s)=>some (.pre (l=s.xs.length∧True) (.ret (.int .u64 (aE s.xs a)) (memH (s))))
 | _,_=>none
theorem XW:aH.ok E1.I Tryz.prog 93 peekS:=by
 intro args h o ho K hK;unfold peekS at ho;split at ho<;>cases ho
 rename_i a l s hm;obtain⟨⟨hl,hp⟩,hK⟩:=hK;have hh:=lM hm hl;subst hh;have hK:K (.int .u64 (aE s.xs a)) (memH (s)):=hK;refine aIl (aD (E:=E1) Tryz.checked.mixed (L:=fun _ _=>none) (n:=10) (aK (q:=bif ilt a 0 then K (.int .u64 0) [some (.cells [.int .i64 s.1,.int .i64 s.2,.slice 1 0 s.3.length 1,.int .i64 s.4,.int .i64 s.5,.int .i64 s.6,.int .u64 s.7,.int .u64 s.8,.bool s.9]),some (.ints (some .u64) s.3)]else bif ile (↑s.3.length:Int) a then K (.int .u64 0) [some (.cells [.int .i64 s.1,.int .i64 s.2,.slice 1 0 s.3.length 1,.int .i64 s.4,.int .i64 s.5,.int .i64 s.6,.int .u64 s.7,.int .u64 s.8,.bool s.9]),some (.ints (some .u64) s.3)]else((0:Int)≤a∧a<(↑s.3.length:Int))∧0+Int.toNat a*(1:Nat)<s.3.length∧K (.int .u64 (List.getD s.3 (0+Int.toNat a*1) 0)) [some (.cells [.int .i64 s.1,.int .i64 s.2,.slice 1 0 s.3.length 1,.int .i64 s.4,.int .i64 s.5,.int .i64 s.6,.int .u64 s.7,.int .u64 s.8,.bool s.9]),some (.ints (some .u64) s.3)]) (by kernel_rfl) ?_))
 refine aM (fun e1=>?_) (fun e1=>aM (fun e2=>?_) (fun e2=>?_))
 ·rw [bG,dT']at e1;rw [iP (by omega)]at hK;exact hK
 ·rw [bX,dT']at e2;rw [iP (by omega)]at hK;exact hK
 ·rw [bG,dF']at e1;rw [bX,dF']at e2;refine⟨by omega,by omega,?_⟩
  rw [IT (by omega)]at hK
  rw [uW];exact hK
noncomputable def E2:=(((E1.addS 93 peekS XW)))
def aV(xs:List Int)(a x:Int):List Int:=if 0≤a∧a<xs.length then xs.set a.toNat x else xs
theorem kP(xs:List Int)(a x:Int):(aV xs a x).length =xs.length:=by unfold aV;split<;>simp
theorem zD{xs:List Int}{a x:Int}(h:0≤a∧a<xs.length):aV xs a x=xs.set a.toNat x:=if_pos h
theorem qF{xs:List Int}{a x:Int}(h: ¬(0≤a∧a<xs.length)):aV xs a x=xs:=if_neg h
theorem fZ{xs:List Int}{a:Int}(h: ¬(0≤a∧a<xs.length)):bL xs a=false:=by
 cases e:bL xs a with
 | false=>rfl
 | true=>exact(h (nC.1 e)).elim
theorem RB{xs:List Int}{a:Int}(h:0≤a∧a<xs.length):xs.set a.toNat (aE xs a)=xs:=by
 rw [IT h];apply List.ext_getElem?;intro i;rw [List.getElem?_set]
 by_cases hi:a.toNat=i
 ·subst hi;have:a.toNat<xs.length:=by omega
  simp [this]
 ·simp [hi]
def MS.loadd(s:MS)(a:Int):MS:=s.did 1 a (aE s.xs a) (bL s.xs a) s.xs
def MS.stored(s:MS)(a x:Int):MS:=s.did 2 a (bif bL s.xs a then x else 0) (bL s.xs a) (aV s.xs a x)
def aU(xs:List Int)(a x:Int):Bool:=bL xs a&&ieq (aE xs a) x
def MS.cased(s:MS)(a x y:Int):MS:=s.did 3 a (bif bL s.xs a then y else 0) (aU s.xs a x) (bif aU s.xs a x then aV s.xs a y else s.xs)
def MS.added(s:MS)(a x:Int):MS:=s.did 4 a (bif bL s.xs a then IntKind.wrap .u64 (aE s.xs a+x)else 0) (bL s.xs a) (aV s.xs a (IntKind.wrap .u64 (aE s.xs a+x)))
theorem p9(s:MS)(k a w:Int)(ok:Bool)(xs:List Int)(h:xs.length=s.xs.length):memH (s.did k a w ok xs)=[some (.cells [.int .i64 s.t,.int .i64 s.n,.slice 1 0 s.xs.length 1,.int .i64 (s.c+1),.int .i64 k,.int .i64 a,.int .u64 (aE s.xs a),.int .u64 w,.bool ok]),some (.ints (some .u64) xs)]:=by
 unfold memH MS.did;simp only [h]
def loadS:aH Ob:=fun args h=>match args,pD h with
 | [.ptr 0 0,.int .i64 a],some (l,s)=>some (.pre (l=s.xs.length∧(0≤s.c∧s.c≤4611686018427387904)) (.ret (.int .u64 (aE s.xs a)) (memH (s.loadd a))))
 | _,_=>none
theorem load_ok:aH.ok E2.I Tryz.prog 129 loadS:=by
 intro args h o ho K hK;unfold loadS at ho;split at ho<;>cases ho
 rename_i a l s hm;obtain⟨⟨hl,hp⟩,hK⟩:=hK;have hh:=lM hm hl;subst hh;have hK:K (.int .u64 (aE s.xs a)) (memH (s.loadd a)):=hK;refine aIl (aD (E:=E2) Tryz.checked.mixed (L:=fun _ _=>none) (n:=10) (aK (q:=(lE' s.3∧True)∧bif ilt a 0 then K (.int .u64 (aE s.3 a)) [some (.cells [.int .i64 s.1,.int .i64 s.2,.slice 1 0 s.3.length 1,.int .i64 (W (s.4+1)),.int .i64 1,.int .i64 a,.int .u64 (aE s.3 a),.int .u64 (aE s.3 a),.bool false]),some (.ints (some .u64) s.3)]else bif ile (↑s.3.length:Int) a then K (.int .u64 (aE s.3 a)) [some (.cells [.int .i64 s.1,.int .i64 s.2,.slice 1 0 s.3.length 1,.int .i64 (W (s.4+1)),.int .i64 1,.int .i64 a,.int .u64 (aE s.3 a),.int .u64 (aE s.3 a),.bool false]),some (.ints (some .u64) s.3)]else((0:Int)≤a∧a<(↑s.3.length:Int))∧0+Int.toNat a*(1:Nat)<s.3.length∧K (.int .u64 (aE s.3 a)) [some (.cells [.int .i64 s.1,.int .i64 s.2,.slice 1 0 s.3.length 1,.int .i64 (W (s.4+1)),.int .i64 1,.int .i64 a,.int .u64 (aE s.3 a),.int .u64 (aE s.3 a),.bool true]),some (.ints (some .u64) (List.set s.3 (0+Int.toNat a*1) (aE s.3 a)))]) (by kernel_rfl) ?_))
 refine⟨⟨rfl,trivial⟩,?_⟩;have hc:IntKind.wrap .i64 (s.c+1)=s.c+1:=cW (by omega)
 simp only [W,WU,hc,uW];unfold MS.loadd at hK;rw [p9 _ _ _ _ _ _ rfl]at hK;refine aM (fun e1=>?_) (fun e1=>aM (fun e2=>?_) (fun e2=>?_))
 ·rw [bG,dT']at e1;rw [fZ (by omega)]at hK;exact hK
 ·rw [bX,dT']at e2;rw [fZ (by omega)]at hK;exact hK
 ·rw [bG,dF']at e1;rw [bX,dF']at e2;refine⟨by omega,by omega,?_⟩
  rw [nC.2 (by omega)]at hK
  rw [RB (by omega)];exact hK
def storeS:aH Ob:=fun args h=>match args,pD h with
 | [.ptr 0 0,.int .i64 a,.int .u64 x],some (l,s)=>some (.pre (l=s.xs.length∧(0≤s.c∧s.c≤4611686018427387904)) (.ret (.tup []) (memH (s.stored a x))))
 | _,_=>none
theorem RG:aH.ok E2.I Tryz.prog 221 storeS:=by
 intro args h o ho K hK;unfold storeS at ho;split at ho<;>cases ho
 rename_i a x l s hm;obtain⟨⟨hl,hp⟩,hK⟩:=hK;have hh:=lM hm hl;subst hh;have hK:K (.tup []) (memH (s.stored a x)):=hK;refine aIl (aD (E:=E2) Tryz.checked.mixed (L:=fun _ _=>none) (n:=10) (aK (q:=(lE' s.3∧True)∧bif ilt a 0 then K (.tup []) [some (.cells [.int .i64 s.1,.int .i64 s.2,.slice 1 0 s.3.length 1,.int .i64 (W (s.4+1)),.int .i64 2,.int .i64 a,.int .u64 (aE s.3 a),.int .u64 (aE s.3 a),.bool false]),some (.ints (some .u64) s.3)]else bif ile (↑s.3.length:Int) a then K (.tup []) [some (.cells [.int .i64 s.1,.int .i64 s.2,.slice 1 0 s.3.length 1,.int .i64 (W (s.4+1)),.int .i64 2,.int .i64 a,.int .u64 (aE s.3 a),.int .u64 (aE s.3 a),.bool false]),some (.ints (some .u64) s.3)]else((0:Int)≤a∧a<(↑s.3.length:Int))∧0+Int.toNat a*(1:Nat)<s.3.length∧K (.tup []) [some (.cells [.int .i64 s.1,.int .i64 s.2,.slice 1 0 s.3.length 1,.int .i64 (W (s.4+1)),.int .i64 2,.int .i64 a,.int .u64 (aE s.3 a),.int .u64 x,.bool true]),some (.ints (some .u64) (List.set s.3 (0+Int.toNat a*1) x))]) (by kernel_rfl) ?_))
 refine⟨⟨rfl,trivial⟩,?_⟩;have hc:IntKind.wrap .i64 (s.c+1)=s.c+1:=cW (by omega)
 simp only [W,WU,hc,uW];unfold MS.stored at hK;rw [p9 _ _ _ _ _ _ (kP _ _ _)]at hK;refine aM (fun e1=>?_) (fun e1=>aM (fun e2=>?_) (fun e2=>?_))
 ·rw [bG,dT']at e1;rw [fZ (by omega),qF (by omega)]at hK
  rw [iP (by omega)]at hK⊢;exact hK
 ·rw [bX,dT']at e2;rw [fZ (by omega),qF (by omega)]at hK
  rw [iP (by omega)]at hK⊢;exact hK
 ·rw [bG,dF']at e1;rw [bX,dF']at e2;refine⟨by omega,by omega,?_⟩
  rw [nC.2 (by omega),zD (by omega)]at hK
  exact hK
def casS:aH Ob:=fun args h=>match args,pD h with
 | [.ptr 0 0,.int .i64 a,.int .u64 x,.int .u64 y],some (l,s)=>some (.pre (l=s.xs.length∧(0≤s.c∧s.c≤4611686018427387904)) (.ret (.bool (aU s.xs a x)) (memH (s.cased a x y))))
 | _,_=>none
theorem aAO:aH.ok E2.I Tryz.prog 217 casS:=by
 intro args h o ho K hK;unfold casS at ho;split at ho<;>cases ho
 rename_i a x y l s hm;obtain⟨⟨hl,hp⟩,hK⟩:=hK;have hh:=lM hm hl;subst hh;have hK:K (.bool (aU s.xs a x)) (memH (s.cased a x y)):=hK;refine aIl (aD (E:=E2) Tryz.checked.mixed (L:=fun _ _=>none) (n:=10) (aK (q:=(lE' s.3∧True)∧bif ilt a 0 then K (.bool false) [some (.cells [.int .i64 s.1,.int .i64 s.2,.slice 1 0 s.3.length 1,.int .i64 (W (s.4+1)),.int .i64 3,.int .i64 a,.int .u64 (aE s.3 a),.int .u64 (aE s.3 a),.bool false]),some (.ints (some .u64) s.3)]else bif ile (↑s.3.length:Int) a then K (.bool false) [some (.cells [.int .i64 s.1,.int .i64 s.2,.slice 1 0 s.3.length 1,.int .i64 (W (s.4+1)),.int .i64 3,.int .i64 a,.int .u64 (aE s.3 a),.int .u64 (aE s.3 a),.bool false]),some (.ints (some .u64) s.3)]else bif ieq (aE s.3 a) x then((0:Int)≤a∧a<(↑s.3.length:Int))∧0+Int.toNat a*(1:Nat)<s.3.length∧K (.bool (ieq (aE s.3 a) x)) [some (.cells [.int .i64 s.1,.int .i64 s.2,.slice 1 0 s.3.length 1,.int .i64 (W (s.4+1)),.int .i64 3,.int .i64 a,.int .u64 (aE s.3 a),.int .u64 y,.bool (ieq (aE s.3 a) x)]),some (.ints (some .u64) (List.set s.3 (0+Int.toNat a*1) y))]else K (.bool (ieq (aE s.3 a) x)) [some (.cells [.int .i64 s.1,.int .i64 s.2,.slice 1 0 s.3.length 1,.int .i64 (W (s.4+1)),.int .i64 3,.int .i64 a,.int .u64 (aE s.3 a),.int .u64 y,.bool (ieq (aE s.3 a) x)]),some (.ints (some .u64) s.3)]) (by kernel_rfl) ?_))
 refine⟨⟨rfl,trivial⟩,?_⟩;have hc:IntKind.wrap .i64 (s.c+1)=s.c+1:=cW (by omega)
 simp only [W,WU,hc,uW];unfold MS.cased at hK;rw [p9 _ _ _ _ _ _ (by cases aU s.xs a x<;>first | exact kP _ _ _ | rfl)]at hK
 unfold aU at hK;refine aM (fun e1=>?_) (fun e1=>aM (fun e2=>?_) (fun e2=>?_))
 ·rw [bG,dT']at e1;rw [fZ (by omega)]at hK
  rw [iP (by omega)]at hK⊢;exact hK
 ·rw [bX,dT']at e2;rw [fZ (by omega)]at hK
  rw [iP (by omega)]at hK⊢;exact hK
 ·rw [bG,dF']at e1;rw [bX,dF']at e2;rw [nC.2 (by omega),zD (by omega)]at hK
  simp only [Bool.true_and,cond_true]at hK;refine aM (fun e3=>⟨by omega,by omega,?_⟩) (fun e3=>?_)
  ·rw [e3]at hK⊢;exact hK
  ·rw [e3]at hK⊢;exact hK
def addS:aH Ob:=fun args h=>match args,pD h with
 | [.ptr 0 0,.int .i64 a,.int .u64 x],some (l,s)=>some (.pre (l=s.xs.length∧(0≤s.c∧s.c≤4611686018427387904)) (.ret (.int .u64 (aE s.xs a)) (memH (s.added a x))))
 | _,_=>none
theorem aAq:aH.ok E2.I Tryz.prog 222 addS:=by
 intro args h o ho K hK;unfold addS at ho;split at ho<;>cases ho
 rename_i a x l s hm;obtain⟨⟨hl,hp⟩,hK⟩:=hK;have hh:=lM hm hl;subst hh;have hK:K (.int .u64 (aE s.xs a)) (memH (s.added a x)):=hK;refine aIl (aD (E:=E2) Tryz.checked.mixed (L:=fun _ _=>none) (n:=10) (aK (q:=(lE' s.3∧True)∧bif ilt a 0 then K (.int .u64 (aE s.3 a)) [some (.cells [.int .i64 s.1,.int .i64 s.2,.slice 1 0 s.3.length 1,.int .i64 (W (s.4+1)),.int .i64 4,.int .i64 a,.int .u64 (aE s.3 a),.int .u64 (aE s.3 a),.bool false]),some (.ints (some .u64) s.3)]else bif ile (↑s.3.length:Int) a then K (.int .u64 (aE s.3 a)) [some (.cells [.int .i64 s.1,.int .i64 s.2,.slice 1 0 s.3.length 1,.int .i64 (W (s.4+1)),.int .i64 4,.int .i64 a,.int .u64 (aE s.3 a),.int .u64 (aE s.3 a),.bool false]),some (.ints (some .u64) s.3)]else((0:Int)≤a∧a<(↑s.3.length:Int))∧0+Int.toNat a*(1:Nat)<s.3.length∧K (.int .u64 (aE s.3 a)) [some (.cells [.int .i64 s.1,.int .i64 s.2,.slice 1 0 s.3.length 1,.int .i64 (W (s.4+1)),.int .i64 4,.int .i64 a,.int .u64 (aE s.3 a),.int .u64 (WU (aE s.3 a+x)),.bool true]),some (.ints (some .u64) (List.set s.3 (0+Int.toNat a*1) (WU (aE s.3 a+x))))]) (by kernel_rfl) ?_))
 refine⟨⟨rfl,trivial⟩,?_⟩;have hc:IntKind.wrap .i64 (s.c+1)=s.c+1:=cW (by omega)
 simp only [W,WU,hc,uW];unfold MS.added at hK;rw [p9 _ _ _ _ _ _ (kP _ _ _)]at hK;refine aM (fun e1=>?_) (fun e1=>aM (fun e2=>?_) (fun e2=>?_))
 ·rw [bG,dT']at e1;rw [fZ (by omega),qF (by omega)]at hK
  rw [iP (by omega)]at hK⊢;exact hK
 ·rw [bX,dT']at e2;rw [fZ (by omega),qF (by omega)]at hK
  rw [iP (by omega)]at hK⊢;exact hK
 ·rw [bG,dF']at e1;rw [bX,dF']at e2;refine⟨by omega,by omega,?_⟩
  rw [nC.2 (by omega),zD (by omega)]at hK
  exact hK
noncomputable def E3:=(((E2.addS 129 loadS load_ok).addS 221 storeS RG).addS 217 casS aAO).addS 222 addS aAq
def aP(t n me:Int):Int:=if t<1 then 1 else 1+Int.tdiv (me*n) t
theorem YR{x t:Int}(h:0≤x)(ht:1≤t):0≤Int.tdiv x t∧Int.tdiv x t≤x:=by
 rw [Int.tdiv_eq_ediv_of_nonneg h];exact⟨Int.ediv_nonneg h (by omega),Int.ediv_le_self t h⟩
def first0S:aH Ob:=fun args h=>match args,h with
 | [.ptr 0 0],some (.cells (.int .i64 t:: .int .i64 n:: .int .i64 me::tl))::rest=>some (.pre ((0≤me∧me≤100000)∧(0≤n∧n≤100000)) (.ret (.int .i64 (aP t n me)) (some (.cells (.int .i64 t:: .int .i64 n:: .int .i64 me::tl))::rest)))
 | _,_=>none
theorem KJ:aH.ok E3.I Tryz.prog 210 first0S:=by
 intro args h o ho K hK;unfold first0S at ho;split at ho<;>cases ho
 rename_i t n me tl rest;obtain⟨hp,hK⟩:=hK;have hK:K (.int .i64 (aP t n me)) (some (.cells (.int .i64 t:: .int .i64 n:: .int .i64 me::tl))::rest):=hK;refine(aD (E:=E3) Tryz.checked.mixed (L:=fun _ _=>none) (n:=10) (aK (q:=bif ilt t 1 then K (.int .i64 1) (some (.cells (.int .i64 t:: .int .i64 n:: .int .i64 me::tl))::rest)else t≠(0:Int)∧K (.int .i64 (W (1+W (Int.tdiv (W (me*n)) t)))) (some (.cells (.int .i64 t:: .int .i64 n:: .int .i64 me::tl))::rest)) (by kernel_rfl) ?_))
 obtain⟨⟨h1,h2⟩,h3,h4⟩:=hp;have hm:0≤me*n∧me*n≤100000*100000:=⟨Int.mul_nonneg h1 h3,Int.mul_le_mul h2 h4 h3 (by omega)⟩
 refine aM (fun e=>?_) (fun e=>?_)
 ·rw [bG,dT']at e;unfold aP at hK;rw [if_pos e]at hK;exact hK
 ·rw [bG,dF']at e;refine⟨by omega,?_⟩
  unfold aP at hK;rw [if_neg e]at hK;have:=YR (x:=me*n) (t:=t) hm.1 (by omega)
  simp(disch:=omega) only [W,cW]
  exact hK
def FH:bF Ob:=fun args h=>match args,h with
 | [.ptr 0 0],some (.cells (.int .i64 t:: .int .i64 n:: .int .i64 me::tl))::rest=>some (((0≤me∧me≤100000)∧(0≤n∧n≤100000)),.int .i64 (aP t n me))
 | _,_=>none
theorem OW:aH.ok E3.I Tryz.prog 210 FH.spec:=by
 intro args h o ho;unfold bF.spec at ho;split at ho
 case h_2=>cases ho
 rename_i p v hv;unfold FH at hv;split at hv
 case h_2=>cases hv
 simp only [sI',pI']at hv;obtain⟨rfl,rfl⟩:=hv;exact KJ _ _ o ho
def lifeNewS:aH Ob:=fun args h=>match args,h with
 | [.agg [.int .i64 t,.int .i64 n],.int .i64 a],[]=>some (.pre (True) (.ret (.ptr 0 0) ([some (.cells [.int .i64 t,.int .i64 n,.int .i64 0,.int .i64 (bif bN n a then a else 1),.int .i64 n,.int .u64 0,.bool false])])))
 | _,_=>none
theorem FY:aH.ok E3.I Tryz.prog 209 lifeNewS:=by
 intro args h o ho K hK;unfold lifeNewS at ho;split at ho<;>cases ho
 rename_i t n a;obtain⟨hp,hK⟩:=hK;have hK:K (.ptr 0 0) ([some (.cells [.int .i64 t,.int .i64 n,.int .i64 0,.int .i64 (bif bN n a then a else 1),.int .i64 n,.int .u64 0,.bool false])]):=hK;refine aIl (aD (E:=E3) Tryz.checked.mixed (L:=fun _ _=>none) (n:=10) (aK (q:=True∧bif !bN n a then K (.ptr 0 0) [some (.cells [.int .i64 t,.int .i64 n,.int .i64 0,.int .i64 1,.int .i64 n,.int .u64 0,.bool false])]else K (.ptr 0 0) [some (.cells [.int .i64 t,.int .i64 n,.int .i64 0,.int .i64 a,.int .i64 n,.int .u64 0,.bool false])]) (by kernel_rfl) ?_))
 refine⟨trivial,aM (fun e=>?_) (fun e=>?_)⟩
 ·have e':bN n a=false:=by simpa using e
  rw [e']at hK;exact hK
 ·have e':bN n a=true:=by simpa using e
  rw [e']at hK;exact hK
noncomputable def E4a:=E3.addS 209 lifeNewS FY
noncomputable def E4:=E4a.addR 210 FH OW
noncomputable def LL:FuncId→Nat→Option (lE Ob):=fun _ _=>some (.rounds 12)
noncomputable def E5:=E4
abbrev iI'(l:List Int):Option (aG Ob):=some (.ints (some .i64) l)
abbrev cE'(l:List AVal):Option (aG Ob):=some (.cells l)
theorem cM'{E:Env Ob Tryz.prog}{f:FuncId}{args:List AVal}{h:aC Ob}{K:AVal→aC Ob→Prop}{q:Prop}(e:HP E LL 10 f args h K=q)(hq:q):aB E.I Tryz.prog f args h K:=aD (E:=E) Tryz.checked.mixed (L:=LL) (n:=10) (aK e hq)
abbrev cT':=aB (A:=Ob) (obI tbl) Tryz.prog
abbrev sT':=aH.ok (A:=Ob) (obI tbl) Tryz.prog
def cloneS:aH Ob:=fun args h=>match args,h with
 | [.slice 0 0 n 1],[some (.ints (some .i64) xs)]=>some (.pre (n=xs.length∧n≤4294967296) (.ret (.slice 1 0 xs.length 1) [some (.ints (some .i64) xs),some (.ints (some .i64) xs)]))
 | _,_=>none
theorem NP:aH.ok E5.I Tryz.prog 90 cloneS:=by
 intro args h o ho K hK;unfold cloneS at ho;split at ho<;>cases ho
 rename_i n xs;obtain⟨⟨rfl,hp⟩,hK⟩:=hK;have hK:K (.slice 1 0 xs.length 1) [some (.ints (some .i64) xs),some (.ints (some .i64) xs)]:=hK;refine aIl (aI6 (cs:=[(.slot 0,.ints (some .i64))]) (cM' (E:=E5) (q:= ∀(b:Bool),(b=true→xs.length=0)→bif b then K (.slice 1 0 0 1) [some (.ints (some .i64) xs),some (.ints (some .i64) [])]else(0+xs.length≤xs.length∧xs.length≤(4294967296:Nat))∧K (.slice 1 0 xs.length 1) [some (.ints (some .i64) xs),some (.ints (some .i64) (List.take xs.length (List.drop 0 xs)))]) (by kernel_rfl) ?_))
 intro b hb;refine aM (fun e=>?_) (fun e=>⟨⟨by omega,by omega⟩,?_⟩)
 ·have h0:=List.length_eq_zero_iff.1 (hb e);subst h0;exact hK
 ·simpa using hK
def nL(xs ys:List Int):Bool:=decide (xs=ys)
theorem G3{xs ys:List Int} :nL xs ys=true↔xs=ys:=by unfold nL;exact decide_eq_true_iff
structure okI (xs ys:List Int) (i:Nat):Prop where
 h1:i≤xs.length
 h2:xs.length=ys.length
 h3:xs.take i=ys.take i
def HI(xs ys:List Int):Hint Ob:= {X:=Nat,st:=fun i=>([.slice 0 0 xs.length 1,.slice 1 0 ys.length 1,.O,.O,.O,.int .i64 (i:Int)]++List.replicate 20 .O,[some (.ints (some .i64) xs),some (.ints (some .i64) ys)]),ok:=okI xs ys,mu:=fun i=>xs.length - i,keep:=[0,1,5] }
def intsS0:aH Ob:=fun args h=>match args,h with
 | [.slice 0 0 n 1,.slice 1 0 m 1],[some (.ints (some .i64) xs),some (.ints (some .i64) ys)]=>some (.pre ((n=xs.length∧m=ys.length)∧n≤4294967296) (.ret (.bool (nL xs ys)) [some (.ints (some .i64) xs),some (.ints (some .i64) ys)]))
 | _,_=>none
theorem PK:aH.ok E5.I Tryz.prog 58 intsS0:=by
 intro args h o ho K hK;unfold intsS0 at ho;split at ho<;>cases ho
 rename_i n m xs ys;obtain⟨⟨⟨rfl,rfl⟩,hp⟩,hK⟩:=hK;have hK:K (.bool (nL xs ys)) [some (.ints (some .i64) xs),some (.ints (some .i64) ys)]:=hK;refine(aD (E:=E5) Tryz.checked.mixed (L:=fun _ _=>some (.states (HI xs ys))) (n:=10) (aK (q:=bif !ieq (↑xs.length:Int) (↑ys.length:Int)then K (.bool false) [some (.ints (some .i64) xs),some (.ints (some .i64) ys)]else cN (HI xs ys) (Hint.ok (HI xs ys)) (.slice 0 0 xs.length 1::.slice 1 0 ys.length 1::.O::.O::.O::.int .i64 0::(tO' 20 [])) [some (.ints (some .i64) xs),some (.ints (some .i64) ys)]∧ ∀(x:Nat),okI xs ys x→bif ilt (↑x:Int) (↑xs.length:Int)then((0:Int)≤(↑x:Int)∧(↑x:Int)<(↑xs.length:Int))∧0+Int.toNat (↑x:Int)*(1:Nat)<xs.length∧((0:Int)≤(↑x:Int)∧(↑x:Int)<(↑ys.length:Int))∧0+Int.toNat (↑x:Int)*(1:Nat)<ys.length∧bif !ieq (List.getD xs (0+Int.toNat (↑x:Int)*1) 0) (List.getD ys (0+Int.toNat (↑x:Int)*1) 0)then K (.bool false) [some (.ints (some .i64) xs),some (.ints (some .i64) ys)]else cN (HI xs ys) (fun x'=>Hint.ok (HI xs ys) x'∧Hint.mu (HI xs ys) x'<Hint.mu (HI xs ys) x) (.slice 0 0 xs.length 1::.slice 1 0 ys.length 1::.O::.O::.O::.int .i64 (W ((↑x:Int)+1))::(tO' 20 [])) [some (.ints (some .i64) xs),some (.ints (some .i64) ys)]else K (.bool true) [some (.ints (some .i64) xs),some (.ints (some .i64) ys)]) (by kernel_rfl) ?_))
 have hS:nL xs ys=decide (xs=ys):=rfl;refine aM (fun e=>?_) (fun e=>⟨aN (H:=HI xs ys) (0:Nat) rfl ⟨Nat.zero_le _,?_,rfl⟩,?_⟩)
 ·rw [cF]at e;have:xs≠ys:=by rintro rfl;simp at e
  rw [hS,decide_eq_false this]at hK;exact hK
 ·rw [cF]at e;simp at e;omega
 ·rintro i ⟨h1,h2,h3⟩;refine aM (fun e1=>?_) (fun e1=>?_)
  ·rw [bG,dT']at e1;have hi:i<xs.length:=by omega
   have e2:0+(i:Int).toNat *1=i:=by omega
   rw [e2];refine⟨by omega,hi,by omega,by omega,aM (fun e3=>?_) (fun e3=>?_)⟩
   ·rw [cF]at e3;have:xs≠ys:=by rintro rfl;simp at e3
    rw [hS,decide_eq_false this]at hK;exact hK
   ·rw [cF]at e3;have e3:xs.getD i 0=ys.getD i 0:=by simpa using e3
    have e4:IntKind.wrap .i64 ((i:Int)+1)=((i+1:Nat):Int):=by rw [cW (by omega)];rfl
    refine aN (H:=HI xs ys) (i+1:Nat) (by simp only [W,e4]<;>rfl) ⟨⟨hi,h2,?_⟩,by show xs.length - (i+1)<xs.length - i;omega⟩
    have hj:i<ys.length:=by omega
    rw [gD',gE' hi,gD',gE' hj]at e3;rw [List.take_succ_eq_append_getElem hi,List.take_succ_eq_append_getElem hj,h3];have e5:xs[i]=ys[i]:=by simpa using e3
    rw [e5]
  ·rw [bG,dF']at e1
   have:xs=ys:=by
    rw [List.take_of_length_le (by omega),List.take_of_length_le (by omega)]at h3;exact h3
   rw [hS,decide_eq_true this]at hK;exact hK
def PL:bF Ob:=fun args h=>match args,h with
 | [.slice 0 0 n 1,.slice 1 0 m 1],[some (.ints (some .i64) xs),some (.ints (some .i64) ys)]=>some ((n=xs.length∧m=ys.length)∧n≤4294967296,.bool (nL xs ys))
 | _,_=>none
theorem XH:aH.ok E5.I Tryz.prog 58 PL.spec:=by
 intro args h o ho;unfold bF.spec at ho;split at ho
 case h_2=>cases ho
 rename_i p v hv;unfold PL at hv;split at hv
 case h_2=>cases hv
 simp only [sI',pI']at hv;obtain⟨rfl,rfl⟩:=hv;exact PK _ _ o ho
noncomputable def E6:=(E5.addS 90 cloneS NP).addR 58 PL XH
def storeNewS:aH Ob:=fun args h=>match args,h with
 | [.agg [.int .i64 t,.int .i64 n],.int .i64 me],[]=>some (.ret (.ptr 0 0) [some (.cells [.int .i64 t,.int .i64 n,.int .i64 me,.int .i64 0,.raw (.slice none 0 0)])])
 | _,_=>none
theorem DG:aH.ok E6.I Tryz.prog 101 storeNewS:=by
 intro args h o ho K hK;unfold storeNewS at ho;split at ho<;>cases ho
 rename_i t n me;have hK:K (.ptr 0 0) [some (.cells [.int .i64 t,.int .i64 n,.int .i64 me,.int .i64 0,.raw (.slice none 0 0)])]:=hK;exact aIl (cM' (E:=E6) (by kernel_rfl) hK)
def lK(sp:Int)(xs:List Int):List Int:=bif ieq sp 0 then xs else sp::xs
def heldS:aH Ob:=fun args h=>match args,h with
 | [.ptr 0 0],[some (.cells [.int .i64 t,.int .i64 n,.int .i64 me,.int .i64 sp,.slice 1 0 k 1]),some (.ints (some .i64) xs)]=>some (.pre (k=xs.length∧k≤1000000) (.ret (.slice 2 0 (lK sp xs).length 1) [some (.cells [.int .i64 t,.int .i64 n,.int .i64 me,.int .i64 sp,.slice 1 0 k 1]),some (.ints (some .i64) xs),some (.ints (some .i64) (lK sp xs))]))
 | _,_=>none
theorem W4:aH.ok E6.I Tryz.prog 106 heldS:=by
 intro args h o ho K hK;unfold heldS at ho;split at ho<;>cases ho
 rename_i t n me sp k xs;obtain⟨⟨rfl,hp⟩,hK⟩:=hK;have hK:K (.slice 2 0 (lK sp xs).length 1) [some (.cells [.int .i64 t,.int .i64 n,.int .i64 me,.int .i64 sp,.slice 1 0 xs.length 1]),some (.ints (some .i64) xs),some (.ints (some .i64) (lK sp xs))]:=hK;refine aIl (aI6 (cs:=[(.slot 0,.ints (some .i64))]) (cM' (E:=E6) (q:=bif ieq sp 0 then(lE' xs∧xs.length≤(4294967296:Nat))∧K (.slice 2 0 xs.length 1) [some (.cells [.int .i64 t,.int .i64 n,.int .i64 me,.int .i64 sp,.slice 1 0 xs.length 1]),some (.ints (some .i64) xs),some (.ints (some .i64) xs)]else(0+xs.length≤xs.length∧1+xs.length≤(4294967296:Nat))∧K (.slice 2 0 (1+xs.length) 1) [some (.cells [.int .i64 t,.int .i64 n,.int .i64 me,.int .i64 sp,.slice 1 0 xs.length 1]),some (.ints (some .i64) xs),some (.ints (some .i64) ([sp]++List.take xs.length (List.drop 0 xs)))]) (by kernel_rfl) ?_))
 unfold lK at hK;refine aM (fun e=>⟨⟨rfl,by omega⟩,?_⟩) (fun e=>⟨⟨by omega,by omega⟩,?_⟩)
 ·rw [e]at hK;exact hK
 ·rw [e]at hK;simp only [cond_false]at hK;have e1:1+xs.length=(sp::xs).length :=by simp;omega
  have e2: [sp]++List.take xs.length (List.drop 0 xs)=sp::xs:=by simp
  rw [e1,e2];exact hK
def fullS0:aH Ob:=fun args h=>match args,h with
 | [.ptr 0 0],some (.cells [.int .i64 t,.int .i64 n,.int .i64 me,.int .i64 sp,.slice 1 0 k 1])::rest=>some (.pre (0≤t∧t≤100000) (.ret (.bool (ile (4*t) (k:Int))) (some (.cells [.int .i64 t,.int .i64 n,.int .i64 me,.int .i64 sp,.slice 1 0 k 1])::rest)))
 | _,_=>none
theorem O1:aH.ok E6.I Tryz.prog 168 fullS0:=by
 intro args h o ho K hK;unfold fullS0 at ho;split at ho<;>cases ho
 rename_i t n me sp k rest;obtain⟨hp,hK⟩:=hK;have hK:K (.bool (ile (4*t) (k:Int))) (some (.cells [.int .i64 t,.int .i64 n,.int .i64 me,.int .i64 sp,.slice 1 0 k 1])::rest):=hK;refine(cM' (E:=E6) (q:=K (.bool (ile (W (4*t)) (↑k:Int))) (some (.cells [.int .i64 t,.int .i64 n,.int .i64 me,.int .i64 sp,.slice 1 0 k 1])::rest)) (by kernel_rfl) ?_)
 simp(disch:=omega) only [W,cW]
 exact hK
def O2:bF Ob:=fun args h=>match args,h with
 | [.ptr 0 0],some (.cells [.int .i64 t,.int .i64 n,.int .i64 me,.int .i64 sp,.slice 1 0 k 1])::rest=>some (0≤t∧t≤100000,.bool (ile (4*t) (k:Int)))
 | _,_=>none
theorem VV:aH.ok E6.I Tryz.prog 168 O2.spec:=by
 intro args h o ho;unfold bF.spec at ho;split at ho
 case h_2=>cases ho
 rename_i p v hv;unfold O2 at hv;split at hv
 case h_2=>cases hv
 simp only [sI',pI']at hv;obtain⟨rfl,rfl⟩:=hv;exact O1 _ _ o ho
noncomputable def E7:=((E6.addS 101 storeNewS DG).addS 106 heldS W4).addR 168 O2 VV
def eO(s:Int):List Int:=bif ieq s 1||ieq s 2 then [1,2,3]else bif ieq s 3||ieq s 4 then [4,5]else []
def kindsS:aH Ob:=fun args h=>match args,h with
 | [.int .i64 s],[]=>some (.ret (.slice 0 0 (eO s).length 1) [some (.ints (some .i64) (eO s))])
 | _,_=>none
theorem PM:aH.ok E7.I Tryz.prog 139 kindsS:=by
 intro args h o ho K hK;unfold kindsS at ho;split at ho<;>cases ho
 rename_i s;have hK:K (.slice 0 0 (eO s).length 1) [some (.ints (some .i64) (eO s))]:=hK;refine aIl (aI6 (cs:=[(.slot 0,.ints (some .i64))]) (cM' (E:=E7) (q:=bif ieq s 1 then K (.slice 0 0 3 1) [some (.ints (some .i64) [1,2,3])]else bif ieq s 2 then K (.slice 0 0 3 1) [some (.ints (some .i64) [1,2,3])]else bif ieq s 3 then K (.slice 0 0 2 1) [some (.ints (some .i64) [4,5])]else bif ieq s 4 then K (.slice 0 0 2 1) [some (.ints (some .i64) [4,5])]else K (.slice 0 0 0 1) [some (.ints (some .i64) [])]) (by kernel_rfl) ?_))
 unfold eO at hK;cases e1:ieq s 1<;>cases e2:ieq s 2<;>cases e3:ieq s 3<;>cases e4:ieq s 4<;>simp only [e1,e2,e3,e4,Bool.or_true,Bool.or_false,Bool.true_or,Bool.false_or,cond_true,cond_false]at hK⊢ <;>exact hK
noncomputable def E8:=E7.addS 139 kindsS PM
theorem iM(a:Int):ieq a a=true:=by rw [cF];simp
def hasB(xs:List Int)(n:Int):Bool:=decide (n∈xs)
theorem jI{xs:List Int}{n:Int} :hasB xs n=true↔n∈xs:=by unfold hasB;exact decide_eq_true_iff
structure okC (xs:List Int) (n:Int) (i:Nat):Prop where
 h1:i≤xs.length
 h2:n∉xs.take i
def HC(xs:List Int)(n:Int):Hint Ob:= {X:=Nat,st:=fun i=>([.slice 0 0 xs.length 1,.int .i64 n,.O,.O,.O,.O,.O,.int .i64 (xs.length:Int),.int .i64 (i:Int)]++List.replicate 10 .O,[some (.ints (some .i64) xs)]),ok:=okC xs n,mu:=fun i=>xs.length - i,keep:=[0,1,7,8] }
def hasS0:aH Ob:=fun args h=>match args,h with
 | [.slice 0 0 k 1,.int .i64 n],[some (.ints (some .i64) xs)]=>some (.pre (k=xs.length∧k≤4294967296) (.ret (.bool (hasB xs n)) [some (.ints (some .i64) xs)]))
 | _,_=>none
theorem VW:aH.ok E8.I Tryz.prog 138 hasS0:=by
 intro args h o ho K hK;unfold hasS0 at ho;split at ho<;>cases ho
 rename_i k n xs;obtain⟨⟨rfl,hp⟩,hK⟩:=hK;have hK:K (.bool (hasB xs n)) [some (.ints (some .i64) xs)]:=hK;refine(aD (E:=E8) Tryz.checked.mixed (L:=fun _ _=>some (.states (HC xs n))) (n:=10) (aK (q:=cN (HC xs n) (Hint.ok (HC xs n)) [.slice 0 0 xs.length 1,.int .i64 n,.O,.O,.O,.O,.O,.int .i64 (↑xs.length:Int),.int .i64 0,.O,.O,.O,.O,.O,.O,.O,.O,.O,.O] [some (.ints (some .i64) xs)]∧ ∀(x:Nat),okC xs n x→bif ilt (↑x:Int) (↑xs.length:Int)then((0:Int)≤(↑x:Int)∧(↑x:Int)<(↑xs.length:Int))∧0+Int.toNat (↑x:Int)*(1:Nat)<xs.length∧bif ieq n (List.getD xs (0+Int.toNat (↑x:Int)*1) 0)then K (.bool (ile 0 (↑x:Int))) [some (.ints (some .i64) xs)]else cN (HC xs n) (fun x'=>Hint.ok (HC xs n) x'∧Hint.mu (HC xs n) x'<Hint.mu (HC xs n) x) [.slice 0 0 xs.length 1,.int .i64 n,.O,.O,.O,.O,.O,.int .i64 (↑xs.length:Int),.int .i64 (W ((↑x:Int)+1)),.O,.O,.O,.O,.O,.O,.O,.O,.O,.O] [some (.ints (some .i64) xs)]else K (.bool false) [some (.ints (some .i64) xs)]) (by kernel_rfl) ?_))
 have hS:hasB xs n=decide (n∈xs):=rfl;refine⟨aN (H:=HC xs n) (0:Nat) rfl ⟨Nat.zero_le _,by simp⟩,?_⟩
 rintro i ⟨h1,h2⟩;refine aM (fun e1=>?_) (fun e1=>?_)
 ·rw [bG,dT']at e1;have hi:i<xs.length:=by omega
  have e2:0+(i:Int).toNat *1=i:=by omega
  rw [e2];have e4:IntKind.wrap .i64 ((i:Int)+1)=((i+1:Nat):Int):=by rw [cW (by omega)];rfl
  have hg:xs.getD i 0=xs[i]:=by rw [gD',gE' hi];rfl
  refine⟨by omega,hi,aM (fun e3=>?_) (fun e3=>?_)⟩
  ·rw [cF,hg]at e3;have e3:n=xs[i]:=by simpa using e3
   have hm:n∈xs:=by rw [e3];exact List.getElem_mem hi
   have h0:ile 0 (i:Int)=true:=by rw [bX,dT'];omega
   rw [hS,decide_eq_true hm]at hK
   first | (rw [h0];exact hK) | exact hK
  ·rw [cF,hg]at e3;have e3: ¬n=xs[i]:=by simpa using e3
   refine aN (H:=HC xs n) (i+1:Nat) (by simp only [W,e4]<;>rfl) ⟨⟨hi,?_⟩,by show xs.length - (i+1)<xs.length - i;omega⟩
   rw [List.take_succ_eq_append_getElem hi];intro hm;rcases List.mem_append.1 hm with h | h
   ·exact h2 h
   ·exact e3 (by simpa using h)
 ·rw [bG,dF']at e1;rw [List.take_of_length_le (by omega)]at h2
  rw [hS,decide_eq_false h2]at hK;exact hK
def VY:bF Ob:=fun args h=>match args,h with
 | [.slice 0 0 k 1,.int .i64 n],[some (.ints (some .i64) xs)]=>some (k=xs.length∧k≤4294967296,.bool (hasB xs n))
 | _,_=>none
theorem O5:aH.ok E8.I Tryz.prog 138 VY.spec:=by
 intro args h o ho;unfold bF.spec at ho;split at ho
 case h_2=>cases ho
 rename_i p v hv;unfold VY at hv;split at hv
 case h_2=>cases hv
 simp only [sI',pI']at hv;obtain⟨rfl,rfl⟩:=hv;exact VW _ _ o ho
noncomputable def E9:=E8.addR 138 VY O5
theorem FQ(s:Int):(eO s).length ≤3:=by
 unfold eO;cases (ieq s 1||ieq s 2)<;>cases (ieq s 3||ieq s 4)<;>simp
def bU(s k y:Int):Bool:=hasB (eO s) k&&(ile 0 y&&ile y (bif ieq k 5 then 0 else 999))
def GP:bF Ob:=fun args h=>match args,h with
 | [.int .i64 s,.agg [.int .i64 k,.int .i64 y]],[]=>some (True,.bool (bU s k y))
 | _,_=>none
theorem QT:aH.ok E9.I Tryz.prog 117 GP.spec:=by
 intro args h o ho K hK;unfold bF.spec at ho;split at ho
 case h_2=>cases ho
 rename_i p v hv;unfold GP at hv;split at hv
 case h_2=>cases hv
 rename_i s k y;simp only [sI',pI']at hv;obtain⟨rfl,rfl⟩:=hv;simp only [sI']at ho;subst ho;obtain⟨_,hK⟩:=hK;have hK:K (.bool (bU s k y)) []:=hK;refine aIl (cM' (E:=E9) (q:=bif ieq k 5 then(lE' (eO s)∧List.length (eO s)≤(4294967296:Nat))∧bif hasB (eO s) k then bif ile 0 y then K (.bool (ile y 0)) []else K (.bool false) []else K (.bool false) []else(lE' (eO s)∧List.length (eO s)≤(4294967296:Nat))∧bif hasB (eO s) k then bif ile 0 y then K (.bool (ile y 999)) []else K (.bool false) []else K (.bool false) []) (by kernel_rfl) ?_)
 have hl:=FQ s;unfold bU at hK
 refine aM (fun e1=>⟨⟨rfl,by omega⟩,aM (fun e2=>aM (fun e3=>?_) (fun e3=>?_)) (fun e2=>?_)⟩) (fun e1=>⟨⟨rfl,by omega⟩,aM (fun e2=>aM (fun e3=>?_) (fun e3=>?_)) (fun e2=>?_)⟩)<;>
  (simp only [e1,e2,cond_true,cond_false,Bool.true_and,Bool.false_and]at hK<;>first | (simp only [e3,Bool.true_and,Bool.false_and]at hK;exact hK) | exact hK)
noncomputable def E10:=E9.addR 117 GP QT
def aA(x a w:Int):Int:=x / 2^a.toNat%2^w.toNat
def bitI(b:Bool):Int:=bif b then 1 else 0
def aL(n w:Int):Bool:=ile 0 n&&ilt n (2^w.toNat)
theorem toNat_ofInt(n:Nat)(x:Int):((BitVec.ofInt n x).toNat :Int)=x%2^n:=by
 rw [BitVec.toNat_ofInt];have h:(0:Int)<(2^n:Nat):=by exact_mod_cast Nat.two_pow_pos n
 have h2:0≤x%((2^n:Nat):Int):=Int.emod_nonneg _ (by omega)
 rw [Int.toNat_of_nonneg h2]
 push_cast
 rfl
theorem jD(w:Nat):(0:Int)<2^w:=by
 have:((2^w:Nat):Int)=2^w:=by push_cast;rfl
 have h:0<2^w:=Nat.two_pow_pos w;omega
theorem R6{w n:Nat}(h:w≤n):(2:Int)^w≤2^n:=by
 have a:((2^w:Nat):Int)=2^w:=by push_cast;rfl
 have b:((2^n:Nat):Int)=2^n:=by push_cast;rfl
 have h:2^w≤2^n:=Nat.pow_le_pow_right (by omega) h
 omega
theorem Y0{w n:Nat}(h:w≤n):(2:Int)^w∣2^n:=by
 have a:((2^w:Nat):Int)=2^w:=by push_cast;rfl
 have b:((2^n:Nat):Int)=2^n:=by push_cast;rfl
 rw [←a,←b];exact Int.natCast_dvd_natCast.2 (Nat.pow_dvd_pow 2 h)
theorem jO{n w:Nat}(x:Int)(h:w<n):((BitVec.ofInt n x&&&BitVec.ofInt n (2^w - 1)).toNat :Int)=x%2^w:=by
 have hp:=jD w;have h3:(2:Int)^w≤2^n:=R6 (by omega)
 have e1:(BitVec.ofInt n (2^w - 1)).toNat =2^w - 1:=by
  have:((BitVec.ofInt n (2^w - 1)).toNat :Int)=((2^w - 1:Nat):Int):=by
   rw [toNat_ofInt,Int.emod_eq_of_lt (by omega) (by omega)]
   have a:((2^w:Nat):Int)=2^w:=by push_cast;rfl
   have:1≤2^w:=Nat.one_le_two_pow;omega
  exact_mod_cast this
 rw [BitVec.toNat_and,e1,Nat.and_two_pow_sub_one_eq_mod]
 push_cast
 rw [toNat_ofInt];exact Int.emod_emod_of_dvd _ (Y0 (by omega))
theorem u6{n a:Nat}{x y:Int}(hx:0≤x∧x<2^a)(hy:0≤y)(h:y*2^a+x<2^n):
 ((BitVec.ofInt n x|||BitVec.ofInt n (y*2^a)).toNat :Int)=x+y*2^a:=by
 have hp:=jD a;have hya:0≤y*2^a:=Int.mul_nonneg hy (by omega)
 obtain⟨u,rfl⟩:=Int.eq_ofNat_of_zero_le hx.1;obtain⟨v,rfl⟩:=Int.eq_ofNat_of_zero_le hy
 have e1:(BitVec.ofInt n (u:Int)).toNat =u:=by
  have:((BitVec.ofInt n (u:Int)).toNat :Int)=(u:Int):=by
   rw [toNat_ofInt,Int.emod_eq_of_lt (by omega) (by omega)]
  exact_mod_cast this
 have e2:(BitVec.ofInt n ((v:Int)*2^a)).toNat =v*2^a:=by
  have:((BitVec.ofInt n ((v:Int)*2^a)).toNat :Int)=((v*2^a:Nat):Int):=by
   rw [toNat_ofInt,Int.emod_eq_of_lt (by omega) (by omega)];push_cast;rfl
  exact_mod_cast this
 have hu:u<2^a:=by
  have b:((2^a:Nat):Int)=2^a:=by push_cast;rfl
  omega
 rw [BitVec.toNat_or,e1,e2]
 have:u|||v*2^a=u+v*2^a:=by
  have:=Nat.shiftLeft_add_eq_or_of_lt hu v;rw [Nat.shiftLeft_eq]at this;rw [Nat.or_comm,←this];omega
 rw [this];push_cast;rfl
theorem mS{x:Int}(h:0≤x∧x≤18446744073709551615):IntKind.wrap IntKind.u64 x=x:=IntWalk.u64_in x h
theorem zT{w n:Nat}(h:w≤n){b:Int}(e:b=2^n):(2:Int)^w≤b:=by rw [e];exact R6 h
def aAU:bF Ob:=fun args h=>match args,h with
 | [.int .u64 x,.int .i64 a,.int .i64 w],[]=>some ((0≤a∧a≤63)∧(0≤w∧w≤62),.int .i64 (aA x a w))
 | _,_=>none
theorem aAV:aH.ok E10.I Tryz.prog 171 aAU.spec:=by
 intro args h o ho K hK;unfold bF.spec at ho;split at ho
 case h_2=>cases ho
 rename_i p v hv;unfold aAU at hv;split at hv
 case h_2=>cases hv
 rename_i x a w;simp only [sI',pI']at hv;obtain⟨rfl,rfl⟩:=hv;simp only [sI']at ho;subst ho;obtain⟨⟨ha,hw⟩,hK⟩:=hK;have hK:K (.int .i64 (aA x a w)) []:=hK;refine aIl (aD (E:=E10) Tryz.checked.mixed (L:=fun _ _=>none) (n:=10) (aK (q:=(0:Int)≤a∧(0:Int)≤w∧K (.int .i64 (W (WU (↑(BitVec.toNat (BitVec.ofInt (IntKind.bits .u64) (Int.fdiv x (2^min (Int.toNat a) (IntKind.bits .u64)))&&&BitVec.ofInt (IntKind.bits .u64) (WU (WU (1*2^min (Int.toNat w) (IntKind.bits .u64)) - 1)))):Int)))) []) (by kernel_rfl) ?_))
 refine⟨by omega,by omega,?_⟩
 refine cast (congrArg (fun z=>K (AVal.int .i64 z) []) ?_) hK;show aA x a w=_;have hb:IntKind.bits .u64 =64:=rfl;rw [hb];have h1:min a.toNat 64=a.toNat:=by omega
 have h2:min w.toNat 64=w.toNat:=by omega
 have h3:(2:Int)^w.toNat≤4611686018427387904:=zT (n:=62) (by omega) (by decide)
 have h4:=jD w.toNat;have h5:=jD a.toNat;rw [h1,h2,Int.fdiv_eq_ediv_of_nonneg _ (by omega)]
 simp only [WU,W,Int.one_mul];rw [mS (x:=2^w.toNat) (by omega),mS (x:=2^w.toNat - 1) (by omega),jO _ (by omega)]
 have h6:=Int.emod_nonneg (x / 2^a.toNat) (b:=2^w.toNat) (by omega)
 have h7:=Int.emod_lt_of_pos (x / 2^a.toNat) (b:=2^w.toNat) (by omega)
 rw [mS (by omega),cW (by omega)]
 rfl
def aAM:bF Ob:=fun args h=>match args,h with
 | [.bool b],[]=>some (True,.int .i64 (bitI b))
 | _,_=>none
theorem aAN:aH.ok E10.I Tryz.prog 297 aAM.spec:=by
 intro args h o ho K hK;unfold bF.spec at ho;split at ho
 case h_2=>cases ho
 rename_i p v hv;unfold aAM at hv;split at hv
 case h_2=>cases hv
 rename_i b;simp only [sI',pI']at hv;obtain⟨rfl,rfl⟩:=hv;simp only [sI']at ho;subst ho;obtain⟨_,hK⟩:=hK;have hK:K (.int .i64 (bitI b)) []:=hK;refine aIl (aD (E:=E10) Tryz.checked.mixed (L:=fun _ _=>none) (n:=10) (aK (q:=bif b then K (.int .i64 1) []else K (.int .i64 0) []) (by kernel_rfl) ?_))
 cases b<;>exact hK
def aBM:bF Ob:=fun args h=>match args,h with
 | [.agg [.int .i64 n,.int .i64 w]],[]=>some (0≤w∧w≤62,.bool (aL n w))
 | _,_=>none
theorem aBN:aH.ok E10.I Tryz.prog 293 aBM.spec:=by
 intro args h o ho K hK;unfold bF.spec at ho;split at ho
 case h_2=>cases ho
 rename_i p v hv;unfold aBM at hv;split at hv
 case h_2=>cases hv
 rename_i n w;simp only [sI',pI']at hv;obtain⟨rfl,rfl⟩:=hv;simp only [sI']at ho;subst ho;obtain⟨hw,hK⟩:=hK;have hK:K (.bool (aL n w)) []:=hK;refine aIl (aD (E:=E10) Tryz.checked.mixed (L:=fun _ _=>none) (n:=10) (aK (q:=bif ile 0 n then(0:Int)≤w∧K (.bool (ilt n (W (1*2^min (Int.toNat w) (IntKind.bits .i64))))) []else K (.bool false) []) (by kernel_rfl) ?_))
 unfold aL at hK;have hb:IntKind.bits .i64 =64:=rfl;have h2:min w.toNat 64=w.toNat:=by omega
 have h3:(2:Int)^w.toNat≤4611686018427387904:=zT (n:=62) (by omega) (by decide)
 have h4:=jD w.toNat;refine aM (fun e=>⟨by omega,?_⟩) (fun e=>?_)
 ·rw [e]at hK;rw [hb,h2,W,Int.one_mul,cW (by omega)]
  exact hK
 ·rw [e]at hK;exact hK
def aS(v:Int):Int:=(v+1)%262144
def PU:bF Ob:=fun args h=>match args,h with
 | [.agg [.int .i64 k,.int .i64 x,.bool m,.int .i64 c,.int .i64 v],.int .i64 y],[]=>some (0≤v∧v≤1000000,.agg [.int .i64 k,.int .i64 y,.bool m,.int .i64 c,.int .i64 (aS v)])
 | _,_=>none
theorem XK:aH.ok E10.I Tryz.prog 266 PU.spec:=by
 intro args h o ho K hK;unfold bF.spec at ho;split at ho
 case h_2=>cases ho
 rename_i p v hv;unfold PU at hv;split at hv
 case h_2=>cases hv
 rename_i k x m c v y;simp only [sI',pI']at hv;obtain⟨rfl,rfl⟩:=hv;simp only [sI']at ho;subst ho;obtain⟨hw,hK⟩:=hK;have hK:K (.agg [.int .i64 k,.int .i64 y,.bool m,.int .i64 c,.int .i64 (aS v)]) []:=hK;refine aIl (aD (E:=E10) Tryz.checked.mixed (L:=fun _ _=>none) (n:=10) (aK (q:=K (.agg [.int .i64 k,.int .i64 y,.bool m,.int .i64 c,.int .i64 (W (↑(BitVec.toNat (BitVec.ofInt (IntKind.bits .i64) (W (v+1))&&&BitVec.ofInt (IntKind.bits .i64) 262143)):Int))]) []) (by kernel_rfl) ?_))
 refine cast (congrArg (fun z=>K (.agg [.int .i64 k,.int .i64 y,.bool m,.int .i64 c,.int .i64 z]) []) ?_) hK;show aS v=_;have hb:IntKind.bits .i64 =64:=rfl;simp only [W];rw [hb,cW (x:=v+1) (by omega)]
 have:=jO (n:=64) (w:=18) (v+1) (by omega)
 have e:(2:Int)^18 - 1=262143:=by decide
 rw [e]at this;rw [this];have e2:(2:Int)^18=262144:=by decide
 rw [e2,cW (by omega)]
 rfl
noncomputable def E11:=((((E10.addR 171 aAU aAV).addR 297 aAM aAN).addR 293 aBM aBN).addR 266 PU XK)
def aB3:bF Ob:=fun args h=>match args,h with
 | [.int .u64 x],[]=>some (True,.agg [.int .i64 (aA x 0 10),.int .i64 (aA x 10 9),.bool (ieq (aA x 19 1) 1),.int .i64 (aA x 20 5),.int .i64 (aA x 25 18)])
 | _,_=>none
set_option maxRecDepth 100000 in
theorem aB4:aH.ok E11.I Tryz.prog 133 aB3.spec:=by
 intro args h o ho K hK;unfold bF.spec at ho;split at ho
 case h_2=>cases ho
 rename_i p v hv;unfold aB3 at hv;split at hv
 case h_2=>cases hv
 rename_i x;simp only [sI',pI']at hv;obtain⟨rfl,rfl⟩:=hv;simp only [sI']at ho;subst ho;obtain⟨_,hK⟩:=hK;refine aIl (cM' (E:=E11) (q:=((0:Int)≤(0:Int)∧(0:Int)<(↑5:Int))∧((0:Int)≤(0:Int)∧(0:Int)<(↑1:Int))∧1+(1:Nat)≤(4294967296:Nat)∧((0:Int)≤W (0+1)∧W (0+1)<(↑5:Int))∧((0:Int)≤W (0+1)∧W (0+1)<(↑(1+1):Int))∧1+1+(1:Nat)≤(4294967296:Nat)∧((0:Int)≤W (W (0+1)+1)∧W (W (0+1)+1)<(↑5:Int))∧((0:Int)≤W (W (0+1)+1)∧W (W (0+1)+1)<(↑(1+1+1):Int))∧1+1+1+(1:Nat)≤(4294967296:Nat)∧((0:Int)≤W (W (W (0+1)+1)+1)∧W (W (W (0+1)+1)+1)<(↑5:Int))∧((0:Int)≤W (W (W (0+1)+1)+1)∧W (W (W (0+1)+1)+1)<(↑(1+1+1+1):Int))∧1+1+1+1+(1:Nat)≤(4294967296:Nat)∧((0:Int)≤W (W (W (W (0+1)+1)+1)+1)∧W (W (W (W (0+1)+1)+1)+1)<(↑5:Int))∧((0:Int)≤W (W (W (W (0+1)+1)+1)+1)∧W (W (W (W (0+1)+1)+1)+1)<(↑(1+1+1+1+1):Int))∧1+1+1+1+1+(1:Nat)≤(4294967296:Nat)∧((0:Int)≤(0:Int)∧(0:Int)<(↑(1+1+1+1+1+1):Int))∧(((0:Int)≤(0:Int)∧(0:Int)≤(63:Int))∧(0:Int)≤(10:Int)∧(10:Int)≤(62:Int))∧((0:Int)≤(1:Int)∧(1:Int)<(↑(1+1+1+1+1+1):Int))∧(((0:Int)≤W (0+10)∧W (0+10)≤(63:Int))∧(0:Int)≤(9:Int)∧(9:Int)≤(62:Int))∧((0:Int)≤(2:Int)∧(2:Int)<(↑(1+1+1+1+1+1):Int))∧(((0:Int)≤W (W (0+10)+9)∧W (W (0+10)+9)≤(63:Int))∧(0:Int)≤(1:Int)∧(1:Int)≤(62:Int))∧((0:Int)≤(3:Int)∧(3:Int)<(↑(1+1+1+1+1+1):Int))∧(((0:Int)≤W (W (W (0+10)+9)+1)∧W (W (W (0+10)+9)+1)≤(63:Int))∧(0:Int)≤(5:Int)∧(5:Int)≤(62:Int))∧((0:Int)≤(4:Int)∧(4:Int)<(↑(1+1+1+1+1+1):Int))∧(((0:Int)≤W (W (W (W (0+10)+9)+1)+5)∧W (W (W (W (0+10)+9)+1)+5)≤(63:Int))∧(0:Int)≤(18:Int)∧(18:Int)≤(62:Int))∧K (.agg [.int .i64 (aA x 0 10),.int .i64 (aA x (W (0+10)) 9),.bool (ieq (aA x (W (W (0+10)+9)) 1) 1),.int .i64 (aA x (W (W (W (0+10)+9)+1)) 5),.int .i64 (aA x (W (W (W (W (0+10)+9)+1)+5)) 18)]) []) (by kernel_rfl) ?_)
 simp(disch:=omega) only [W,cW,Int.reduceAdd,Int.zero_add]
 repeat refine⟨by omega,?_⟩
 exact hK
theorem lJ{n w:Int} :aL n w=true↔0≤n∧n<2^w.toNat:=by
 unfold aL;simp only [bX,bG,Bool.and_eq_true,dT']
theorem gC{a:Nat}{x y p s q:Int}(e:p=2^a)(hx:0≤x∧x<p)(hy:0≤y)(h:y*p+x≤18446744073709551615)(hs:s=x+y*p)(eq:q=p):
 WU (((BitVec.ofInt 64 x|||BitVec.ofInt 64 (WU (WU y*q))).toNat :Int))=s:=by
 subst eq;have hya:0≤y*q:=Int.mul_nonneg hy (by omega)
 have h1:y≤y*q:=by
  have:=Int.mul_le_mul_of_nonneg_left (show(1:Int)≤q by omega) hy
  omega
 have e1:WU y=y:=mS (by omega)
 rw [e1];have e2:WU (y*q)=y*q:=mS (by omega)
 rw [e2];subst e
 rw [u6 hx hy (by have:(2:Int)^64=18446744073709551616:=by decide
                  omega)]
 rw [hs];exact mS (by omega)
theorem VD(m:Bool):aL (bitI m) 1=true:=by cases m<;>rfl
theorem s8{n w:Int}(h:(!aL n w)=true):aL n w=false:=by simpa using h
theorem eP{n w:Int}(h:(!aL n w)=false):aL n w=true:=by simpa using h
def vF(k x:Int)(m:Bool)(c v:Int):Bool:=aL k 10&&(aL x 9&&(aL c 5&&aL v 18))
def cL(k x:Int)(m:Bool)(c v:Int):Int:=k+x*1024+bitI m*524288+c*1048576+v*33554432
def putS:bF Ob:=fun args h=>match args,h with
 | [.agg [.int .i64 k,.int .i64 x,.bool m,.int .i64 c,.int .i64 v]],[]=>some (True,.tup [.int .u64 (bif vF k x m c v then cL k x m c v else 0),.int .i64 (bif vF k x m c v then 0 else 2)])
 | _,_=>none
set_option maxRecDepth 100000 in
theorem aC2:aH.ok E11.I Tryz.prog 263 putS.spec:=by
 intro args h o ho K hK;unfold bF.spec at ho;split at ho
 case h_2=>cases ho
 rename_i p v hv;unfold putS at hv;split at hv
 case h_2=>cases hv
 rename_i k x m c v;simp only [sI',pI']at hv;obtain⟨rfl,rfl⟩:=hv;simp only [sI']at ho;subst ho;obtain⟨_,hK⟩:=hK;refine aIl (cM' (E:=E11) (q:=True∧((0:Int)≤(0:Int)∧(0:Int)<(↑5:Int))∧((0:Int)≤(10:Int)∧(10:Int)≤(62:Int))∧bif !aL k 10 then K (.tup [.int .u64 0,.int .i64 2]) []else(0:Int)≤(0:Int)∧((0:Int)≤W (0+1)∧W (0+1)<(↑5:Int))∧((0:Int)≤(9:Int)∧(9:Int)≤(62:Int))∧bif !aL x 9 then K (.tup [.int .u64 0,.int .i64 2]) []else(0:Int)≤W (0+10)∧((0:Int)≤W (W (0+1)+1)∧W (W (0+1)+1)<(↑5:Int))∧((0:Int)≤(1:Int)∧(1:Int)≤(62:Int))∧bif !aL (bitI m) 1 then K (.tup [.int .u64 0,.int .i64 2]) []else(0:Int)≤W (W (0+10)+9)∧((0:Int)≤W (W (W (0+1)+1)+1)∧W (W (W (0+1)+1)+1)<(↑5:Int))∧((0:Int)≤(5:Int)∧(5:Int)≤(62:Int))∧bif !aL c 5 then K (.tup [.int .u64 0,.int .i64 2]) []else(0:Int)≤W (W (W (0+10)+9)+1)∧((0:Int)≤W (W (W (W (0+1)+1)+1)+1)∧W (W (W (W (0+1)+1)+1)+1)<(↑5:Int))∧((0:Int)≤(18:Int)∧(18:Int)≤(62:Int))∧bif !aL v 18 then K (.tup [.int .u64 0,.int .i64 2]) []else(0:Int)≤W (W (W (W (0+10)+9)+1)+5)∧K (.tup [.int .u64 (WU (↑(BitVec.toNat (BitVec.ofInt (IntKind.bits .u64) (WU (↑(BitVec.toNat (BitVec.ofInt (IntKind.bits .u64) (WU (↑(BitVec.toNat (BitVec.ofInt (IntKind.bits .u64) (WU (↑(BitVec.toNat (BitVec.ofInt (IntKind.bits .u64) (WU (↑(BitVec.toNat (BitVec.ofInt (IntKind.bits .u64) 0|||BitVec.ofInt (IntKind.bits .u64) (WU (WU k*2^min (Int.toNat 0) (IntKind.bits .u64))))):Int))|||BitVec.ofInt (IntKind.bits .u64) (WU (WU x*2^min (Int.toNat (W (0+10))) (IntKind.bits .u64))))):Int))|||BitVec.ofInt (IntKind.bits .u64) (WU (WU (bitI m)*2^min (Int.toNat (W (W (0+10)+9))) (IntKind.bits .u64))))):Int))|||BitVec.ofInt (IntKind.bits .u64) (WU (WU c*2^min (Int.toNat (W (W (W (0+10)+9)+1))) (IntKind.bits .u64))))):Int))|||BitVec.ofInt (IntKind.bits .u64) (WU (WU v*2^min (Int.toNat (W (W (W (W (0+10)+9)+1)+5))) (IntKind.bits .u64))))):Int)),.int .i64 0]) []) (by kernel_rfl) ?_)
 simp(disch:=omega) only [W,cW,Int.reduceAdd,Int.zero_add,Int.reduceToNat]
 refine⟨trivial,⟨by omega,by omega⟩,by omega,aM (fun e=>?_) (fun e1=>⟨by omega,by omega,by omega,aM (fun e=>?_) (fun e2=>⟨by omega,by omega,by omega,aM (fun e=>?_) (fun _=>⟨by omega,by omega,by omega,aM (fun e=>?_) (fun e3=>⟨by omega,by omega,by omega,aM (fun e=>?_) (fun e4=>⟨by omega,?_⟩)⟩)⟩)⟩)⟩)⟩
 ·unfold vF at hK;rw [s8 e]at hK;exact hK
 ·unfold vF at hK;rw [eP e1,s8 e]at hK;exact hK
 ·rw [VD]at e;cases e
 ·unfold vF at hK;rw [eP e1,eP e2,s8 e]at hK;exact hK
 ·unfold vF at hK;rw [eP e1,eP e2,eP e3,s8 e]at hK;exact hK
 ·unfold vF at hK;rw [eP e1,eP e2,eP e3,eP e4]at hK;have f1:=lJ.1 (eP e1);have f2:=lJ.1 (eP e2);have f3:=lJ.1 (eP e3);have f4:=lJ.1 (eP e4);have fm:0≤bitI m∧bitI m≤1:=by cases m<;>decide
  have hb:IntKind.bits .u64 =64:=rfl;have p1:(2:Int)^(10:Int).toNat =1024:=by decide
  have p2:(2:Int)^(9:Int).toNat =512:=by decide
  have p3:(2:Int)^(5:Int).toNat =32:=by decide
  have p4:(2:Int)^(18:Int).toNat =262144:=by decide
  rw [p1]at f1;rw [p2]at f2;rw [p3]at f3;rw [p4]at f4;refine cast (congrArg (fun z=>K (AVal.tup [.int .u64 z,.int .i64 0]) []) ?_) hK;show cL k x m c v=_;unfold cL;symm;have q0:=gC (a:=0) (x:=0) (y:=k) (p:=1) (q:=2^min 0 64) (s:=k) (by decide) (by omega) (by omega) (by omega) (by omega) (by decide)
  have q1:=gC (a:=10) (x:=k) (y:=x) (p:=1024) (q:=2^min 10 64) (s:=k+x*1024) (by decide) (by omega) (by omega) (by omega) (by omega) (by decide)
  have q2:=gC (a:=19) (x:=k+x*1024) (y:=bitI m) (p:=524288) (q:=2^min 19 64) (s:=k+x*1024+bitI m*524288) (by decide) (by omega) (by omega) (by omega) (by omega) (by decide)
  have q3:=gC (a:=20) (x:=k+x*1024+bitI m*524288) (y:=c) (p:=1048576) (q:=2^min 20 64) (s:=k+x*1024+bitI m*524288+c*1048576) (by decide) (by omega) (by omega) (by omega) (by omega) (by decide)
  have q4:=gC (a:=25) (x:=k+x*1024+bitI m*524288+c*1048576) (y:=v) (p:=33554432) (q:=2^min 25 64) (s:=k+x*1024+bitI m*524288+c*1048576+v*33554432) (by decide) (by omega) (by omega) (by omega) (by omega) (by decide)
  rw [hb];rw [WU]at q0 q1 q2 q3 q4;simp only [WU]at q0 q1 q2 q3 q4⊢;rw [q0,q1,q2,q3,q4]
noncomputable def E12:=(E11.addR 133 aB3 aB4).addR 263 putS aC2
noncomputable def E13a:=E12
theorem yA{x:Int}(h: -9223372036854775808≤x∧x≤9223372036854775807):W x=x:=cW h
noncomputable def E13:=E13a
theorem YT{x t:Int}(h:0≤x)(ht:1≤t):0≤Int.tmod x t∧Int.tmod x t<t:=by
 rw [Int.tmod_eq_emod_of_nonneg h];exact⟨Int.emod_nonneg _ (by omega),Int.emod_lt_of_pos _ (by omega)⟩
noncomputable def E14:=E13
theorem U0(x:Int){b:Int}(h:0<b):0≤x%b∧x%b<b:=⟨Int.emod_nonneg _ (by omega),Int.emod_lt_of_pos _ h⟩
theorem T3{x a w:Int} :0≤aA x a w∧aA x a w<2^w.toNat:=U0 _ (jD _)
noncomputable def E15:=(E14)
structure TS where
 i:Int
 bad:Bool
 out:Bool
instance:Inhabited TS:=⟨⟨0,false,false⟩⟩
def a0(r:List Int):Int:=List.headD r 0
def a1(r:List Int):Int:=List.headD (List.tail r) 0
def a2(r:List Int):Int:=List.headD (List.tail (List.tail r)) 0
def a3(r:List Int):Int:=List.headD (List.tail (List.tail (List.tail r))) 0
def a4(r:List Int):Bool:=!ieq (List.headD (List.tail (List.tail (List.tail (List.tail r)))) 0) 0
theorem aCM{b:Bool}(h:(!b)=true):b=false:=by simpa using h
theorem aCL{b:Bool}(h:(!b)=false):b=true:=by simpa using h
noncomputable def E16a:=(E15)
noncomputable def E16:=((((E16a))))
structure XR (xs:List Int):Prop where
 h: ∀x∈xs,0≤x∧x≤18446744073709551615
theorem u4{xs:List Int}(h:XR xs)(a:Int):0≤aE xs a∧aE xs a≤18446744073709551615:=by
 unfold aE;split
 ·rename_i hi;have hlt:a.toNat<xs.length:=by omega
  rw [gD',gE' hlt];exact h.h _ (List.getElem_mem hlt)
 ·omega
def nJ(s:Int):Bool:=ile 1 s&&ile s 4
def resC(d e:Int):Int:=bif ieq e 5 then(bif ieq d 1 then 4 else 0)else 5
def X7(d e:Int)(m:Bool):Bool:=bif ieq e 5 then(bif ieq d 1 then false else m)else false
def X8(d e f:Int):Int:=bif ieq e 5 then(bif ieq d 1 then 0 else f)else 0
def cK(a b c d:Int)(m:Bool)(e f:Int):Int:=a+b*4096+c*2097152+d*549755813888+bitI m*281474976710656+e*562949953421312+f*4503599627370496
def dOk(a b c d e f:Int):Bool:=aL a 12&&(aL b 9&&(aL c 18&&(aL d 9&&(aL e 3&&aL f 10))))
theorem T4{x a w:Int}(ha:0≤a∧a≤63)(hw:0≤w∧w≤62):IntKind.wrap .i64 (IntKind.wrap .u64 ((BitVec.ofInt (IntKind.bits .u64) (Int.fdiv x (2^min (Int.toNat a) (IntKind.bits .u64)))&&&BitVec.ofInt (IntKind.bits .u64) (IntKind.wrap .u64 (IntKind.wrap .u64 (1*2^min (Int.toNat w) (IntKind.bits .u64)) - 1))).toNat :Int))=aA x a w:=by
 have hb:IntKind.bits .u64 =64:=rfl;rw [hb];have h1:min a.toNat 64=a.toNat:=by omega
 have h2:min w.toNat 64=w.toNat:=by omega
 have h3:(2:Int)^w.toNat≤4611686018427387904:=zT (n:=62) (by omega) (by decide)
 have h4:=jD w.toNat;have h5:=jD a.toNat;rw [h1,h2,Int.fdiv_eq_ediv_of_nonneg _ (by omega)]
 simp only [WU,W,Int.one_mul];rw [mS (x:=2^w.toNat) (by omega),mS (x:=2^w.toNat - 1) (by omega),jO _ (by omega)]
 have h6:=Int.emod_nonneg (x / 2^a.toNat) (b:=2^w.toNat) (by omega)
 have h7:=Int.emod_lt_of_pos (x / 2^a.toNat) (b:=2^w.toNat) (by omega)
 rw [mS (by omega),cW (by omega)]
 rfl
def NX:bF Ob:=fun args h=>match args,h with
 | [.int .u64 x],[]=>some (True,.agg [.int .i64 (aA x 0 12),.int .i64 (aA x 12 9),.int .i64 (aA x 21 18),.int .i64 (aA x 39 9),.bool (ieq (aA x 48 1) 1),.int .i64 (aA x 49 3),.int .i64 (aA x 52 10)])
 | _,_=>none
set_option maxRecDepth 100000 in
theorem T8:aH.ok E16.I Tryz.prog 190 NX.spec:=by
 intro args h o ho K hK;unfold bF.spec at ho;split at ho
 case h_2=>cases ho
 rename_i pp vv hv;unfold NX at hv;split at hv
 case h_2=>cases hv
 rename_i x;simp only [sI',pI']at hv;obtain⟨rfl,rfl⟩:=hv;simp only [sI']at ho;subst ho;obtain⟨hp,hK⟩:=hK;have hK:K (.agg [.int .i64 (aA x 0 12),.int .i64 (aA x 12 9),.int .i64 (aA x 21 18),.int .i64 (aA x 39 9),.bool (ieq (aA x 48 1) 1),.int .i64 (aA x 49 3),.int .i64 (aA x 52 10)]) []:=hK;refine aIl (cM' (E:=E16) (q:=((0:Int)≤(0:Int)∧(0:Int)<(↑7:Int))∧((0:Int)≤(0:Int)∧(0:Int)<(↑1:Int))∧1+(1:Nat)≤(4294967296:Nat)∧((0:Int)≤W (0+1)∧W (0+1)<(↑7:Int))∧((0:Int)≤W (0+1)∧W (0+1)<(↑(1+1):Int))∧1+1+(1:Nat)≤(4294967296:Nat)∧((0:Int)≤W (W (0+1)+1)∧W (W (0+1)+1)<(↑7:Int))∧((0:Int)≤W (W (0+1)+1)∧W (W (0+1)+1)<(↑(1+1+1):Int))∧1+1+1+(1:Nat)≤(4294967296:Nat)∧((0:Int)≤W (W (W (0+1)+1)+1)∧W (W (W (0+1)+1)+1)<(↑7:Int))∧((0:Int)≤W (W (W (0+1)+1)+1)∧W (W (W (0+1)+1)+1)<(↑(1+1+1+1):Int))∧1+1+1+1+(1:Nat)≤(4294967296:Nat)∧((0:Int)≤W (W (W (W (0+1)+1)+1)+1)∧W (W (W (W (0+1)+1)+1)+1)<(↑7:Int))∧((0:Int)≤W (W (W (W (0+1)+1)+1)+1)∧W (W (W (W (0+1)+1)+1)+1)<(↑(1+1+1+1+1):Int))∧1+1+1+1+1+(1:Nat)≤(4294967296:Nat)∧((0:Int)≤W (W (W (W (W (0+1)+1)+1)+1)+1)∧W (W (W (W (W (0+1)+1)+1)+1)+1)<(↑7:Int))∧((0:Int)≤W (W (W (W (W (0+1)+1)+1)+1)+1)∧W (W (W (W (W (0+1)+1)+1)+1)+1)<(↑(1+1+1+1+1+1):Int))∧1+1+1+1+1+1+(1:Nat)≤(4294967296:Nat)∧((0:Int)≤W (W (W (W (W (W (0+1)+1)+1)+1)+1)+1)∧W (W (W (W (W (W (0+1)+1)+1)+1)+1)+1)<(↑7:Int))∧((0:Int)≤W (W (W (W (W (W (0+1)+1)+1)+1)+1)+1)∧W (W (W (W (W (W (0+1)+1)+1)+1)+1)+1)<(↑(1+1+1+1+1+1+1):Int))∧1+1+1+1+1+1+1+(1:Nat)≤(4294967296:Nat)∧((0:Int)≤(0:Int)∧(0:Int)<(↑(1+1+1+1+1+1+1+1):Int))∧(0:Int)≤(0:Int)∧((0:Int)≤(0:Int)∧(0:Int)<(↑7:Int))∧(0:Int)≤(12:Int)∧((0:Int)≤(0:Int)∧(0:Int)<(↑7:Int))∧((0:Int)≤W (0+1)∧W (0+1)<(↑(1+1+1+1+1+1+1+1):Int))∧(0:Int)≤W (0+12)∧((0:Int)≤W (0+1)∧W (0+1)<(↑7:Int))∧(0:Int)≤(9:Int)∧((0:Int)≤W (0+1)∧W (0+1)<(↑7:Int))∧((0:Int)≤W (W (0+1)+1)∧W (W (0+1)+1)<(↑(1+1+1+1+1+1+1+1):Int))∧(0:Int)≤W (W (0+12)+9)∧((0:Int)≤W (W (0+1)+1)∧W (W (0+1)+1)<(↑7:Int))∧(0:Int)≤(18:Int)∧((0:Int)≤W (W (0+1)+1)∧W (W (0+1)+1)<(↑7:Int))∧((0:Int)≤W (W (W (0+1)+1)+1)∧W (W (W (0+1)+1)+1)<(↑(1+1+1+1+1+1+1+1):Int))∧(0:Int)≤W (W (W (0+12)+9)+18)∧((0:Int)≤W (W (W (0+1)+1)+1)∧W (W (W (0+1)+1)+1)<(↑7:Int))∧(0:Int)≤(9:Int)∧((0:Int)≤W (W (W (0+1)+1)+1)∧W (W (W (0+1)+1)+1)<(↑7:Int))∧((0:Int)≤W (W (W (W (0+1)+1)+1)+1)∧W (W (W (W (0+1)+1)+1)+1)<(↑(1+1+1+1+1+1+1+1):Int))∧(0:Int)≤W (W (W (W (0+12)+9)+18)+9)∧((0:Int)≤W (W (W (W (0+1)+1)+1)+1)∧W (W (W (W (0+1)+1)+1)+1)<(↑7:Int))∧(0:Int)≤(1:Int)∧((0:Int)≤W (W (W (W (0+1)+1)+1)+1)∧W (W (W (W (0+1)+1)+1)+1)<(↑7:Int))∧((0:Int)≤W (W (W (W (W (0+1)+1)+1)+1)+1)∧W (W (W (W (W (0+1)+1)+1)+1)+1)<(↑(1+1+1+1+1+1+1+1):Int))∧(0:Int)≤W (W (W (W (W (0+12)+9)+18)+9)+1)∧((0:Int)≤W (W (W (W (W (0+1)+1)+1)+1)+1)∧W (W (W (W (W (0+1)+1)+1)+1)+1)<(↑7:Int))∧(0:Int)≤(3:Int)∧((0:Int)≤W (W (W (W (W (0+1)+1)+1)+1)+1)∧W (W (W (W (W (0+1)+1)+1)+1)+1)<(↑7:Int))∧((0:Int)≤W (W (W (W (W (W (0+1)+1)+1)+1)+1)+1)∧W (W (W (W (W (W (0+1)+1)+1)+1)+1)+1)<(↑(1+1+1+1+1+1+1+1):Int))∧(0:Int)≤W (W (W (W (W (W (0+12)+9)+18)+9)+1)+3)∧((0:Int)≤W (W (W (W (W (W (0+1)+1)+1)+1)+1)+1)∧W (W (W (W (W (W (0+1)+1)+1)+1)+1)+1)<(↑7:Int))∧(0:Int)≤(10:Int)∧((0:Int)≤W (W (W (W (W (W (0+1)+1)+1)+1)+1)+1)∧W (W (W (W (W (W (0+1)+1)+1)+1)+1)+1)<(↑7:Int))∧((0:Int)≤(0:Int)∧(0:Int)<(↑7:Int))∧((0:Int)≤(1:Int)∧(1:Int)<(↑7:Int))∧((0:Int)≤(2:Int)∧(2:Int)<(↑7:Int))∧((0:Int)≤(3:Int)∧(3:Int)<(↑7:Int))∧((0:Int)≤(4:Int)∧(4:Int)<(↑7:Int))∧((0:Int)≤(5:Int)∧(5:Int)<(↑7:Int))∧((0:Int)≤(6:Int)∧(6:Int)<(↑7:Int))∧K (.agg [.int .i64 (W (WU (↑(BitVec.toNat (BitVec.ofInt (IntKind.bits .u64) (Int.fdiv x (2^min (Int.toNat 0) (IntKind.bits .u64)))&&&BitVec.ofInt (IntKind.bits .u64) (WU (WU (1*2^min (Int.toNat 12) (IntKind.bits .u64)) - 1)))):Int))),.int .i64 (W (WU (↑(BitVec.toNat (BitVec.ofInt (IntKind.bits .u64) (Int.fdiv x (2^min (Int.toNat (W (0+12))) (IntKind.bits .u64)))&&&BitVec.ofInt (IntKind.bits .u64) (WU (WU (1*2^min (Int.toNat 9) (IntKind.bits .u64)) - 1)))):Int))),.int .i64 (W (WU (↑(BitVec.toNat (BitVec.ofInt (IntKind.bits .u64) (Int.fdiv x (2^min (Int.toNat (W (W (0+12)+9))) (IntKind.bits .u64)))&&&BitVec.ofInt (IntKind.bits .u64) (WU (WU (1*2^min (Int.toNat 18) (IntKind.bits .u64)) - 1)))):Int))),.int .i64 (W (WU (↑(BitVec.toNat (BitVec.ofInt (IntKind.bits .u64) (Int.fdiv x (2^min (Int.toNat (W (W (W (0+12)+9)+18))) (IntKind.bits .u64)))&&&BitVec.ofInt (IntKind.bits .u64) (WU (WU (1*2^min (Int.toNat 9) (IntKind.bits .u64)) - 1)))):Int))),.bool (ieq (W (WU (↑(BitVec.toNat (BitVec.ofInt (IntKind.bits .u64) (Int.fdiv x (2^min (Int.toNat (W (W (W (W (0+12)+9)+18)+9))) (IntKind.bits .u64)))&&&BitVec.ofInt (IntKind.bits .u64) (WU (WU (1*2^min (Int.toNat 1) (IntKind.bits .u64)) - 1)))):Int))) 1),.int .i64 (W (WU (↑(BitVec.toNat (BitVec.ofInt (IntKind.bits .u64) (Int.fdiv x (2^min (Int.toNat (W (W (W (W (W (0+12)+9)+18)+9)+1))) (IntKind.bits .u64)))&&&BitVec.ofInt (IntKind.bits .u64) (WU (WU (1*2^min (Int.toNat 3) (IntKind.bits .u64)) - 1)))):Int))),.int .i64 (W (WU (↑(BitVec.toNat (BitVec.ofInt (IntKind.bits .u64) (Int.fdiv x (2^min (Int.toNat (W (W (W (W (W (W (0+12)+9)+18)+9)+1)+3))) (IntKind.bits .u64)))&&&BitVec.ofInt (IntKind.bits .u64) (WU (WU (1*2^min (Int.toNat 10) (IntKind.bits .u64)) - 1)))):Int)))]) []) (by kernel_rfl) ?_)
 simp(disch:=omega) only [W,WU,cW,Int.reduceAdd,Int.zero_add]
 simp(disch:=omega) only [T4]
 repeat refine⟨by omega,?_⟩
 exact hK
theorem IK{a b:Int}{X Y:Prop}(h1:a<b→X)(h2:b≤a→Y):cond (ilt a b) X Y:=
 aM (fun e=>h1 (by rw [bG,dT']at e;exact e)) (fun e=>h2 (by rw [bG,dF']at e;omega))
theorem xF{a b:Int}{X Y:Prop}(h1:a≤b→X)(h2:b<a→Y):cond (ile a b) X Y:=
 aM (fun e=>h1 (by rw [bX,dT']at e;exact e)) (fun e=>h2 (by rw [bX,dF']at e;omega))
theorem HN{a b:Int}{X Y:Prop}(h1:a=b→X)(h2:a≠b→Y):cond (ieq a b) X Y:=
 aM (fun e=>h1 (by rw [cF]at e;simpa using e)) (fun e=>h2 (by rw [cF]at e;simpa using e))
theorem pQ{a b c d e f:Int} :dOk a b c d e f=true↔(0≤a∧a<4096)∧(0≤b∧b<512)∧(0≤c∧c<262144)∧(0≤d∧d<512)∧(0≤e∧e<8)∧(0≤f∧f<1024):=by
 unfold dOk;simp only [Bool.and_eq_true,lJ]<;>rfl
def NY:bF Ob:=fun args h=>match args,h with
 | [.agg [.int .i64 a,.int .i64 b,.int .i64 c,.int .i64 d,.bool m,.int .i64 e,.int .i64 f]],[]=>some (True,.tup [.int .u64 (bif dOk a b c d e f then cK a b c d m e f else 0),.int .i64 (bif dOk a b c d e f then 0 else 2)])
 | _,_=>none
set_option maxRecDepth 100000 in
theorem T9:aH.ok E16.I Tryz.prog 199 NY.spec:=by
 intro args h o ho K hK;unfold bF.spec at ho;split at ho
 case h_2=>cases ho
 rename_i pp vv hv;unfold NY at hv;split at hv
 case h_2=>cases hv
 rename_i a b c d m e f;simp only [sI',pI']at hv;obtain⟨rfl,rfl⟩:=hv;simp only [sI']at ho;subst ho;obtain⟨hp,hK⟩:=hK;have hK:K (.tup [.int .u64 (bif dOk a b c d e f then cK a b c d m e f else 0),.int .i64 (bif dOk a b c d e f then 0 else 2)]) []:=hK;refine aIl (cM' (E:=E16) (q:=((0:Int)≤(0:Int)∧(0:Int)<(↑7:Int))∧((0:Int)≤(0:Int)∧(0:Int)<(↑1:Int))∧1+(1:Nat)≤(4294967296:Nat)∧((0:Int)≤W (0+1)∧W (0+1)<(↑7:Int))∧((0:Int)≤W (0+1)∧W (0+1)<(↑(1+1):Int))∧1+1+(1:Nat)≤(4294967296:Nat)∧((0:Int)≤W (W (0+1)+1)∧W (W (0+1)+1)<(↑7:Int))∧((0:Int)≤W (W (0+1)+1)∧W (W (0+1)+1)<(↑(1+1+1):Int))∧1+1+1+(1:Nat)≤(4294967296:Nat)∧((0:Int)≤W (W (W (0+1)+1)+1)∧W (W (W (0+1)+1)+1)<(↑7:Int))∧((0:Int)≤W (W (W (0+1)+1)+1)∧W (W (W (0+1)+1)+1)<(↑(1+1+1+1):Int))∧1+1+1+1+(1:Nat)≤(4294967296:Nat)∧((0:Int)≤W (W (W (W (0+1)+1)+1)+1)∧W (W (W (W (0+1)+1)+1)+1)<(↑7:Int))∧((0:Int)≤W (W (W (W (0+1)+1)+1)+1)∧W (W (W (W (0+1)+1)+1)+1)<(↑(1+1+1+1+1):Int))∧1+1+1+1+1+(1:Nat)≤(4294967296:Nat)∧((0:Int)≤W (W (W (W (W (0+1)+1)+1)+1)+1)∧W (W (W (W (W (0+1)+1)+1)+1)+1)<(↑7:Int))∧((0:Int)≤W (W (W (W (W (0+1)+1)+1)+1)+1)∧W (W (W (W (W (0+1)+1)+1)+1)+1)<(↑(1+1+1+1+1+1):Int))∧1+1+1+1+1+1+(1:Nat)≤(4294967296:Nat)∧((0:Int)≤W (W (W (W (W (W (0+1)+1)+1)+1)+1)+1)∧W (W (W (W (W (W (0+1)+1)+1)+1)+1)+1)<(↑7:Int))∧((0:Int)≤W (W (W (W (W (W (0+1)+1)+1)+1)+1)+1)∧W (W (W (W (W (W (0+1)+1)+1)+1)+1)+1)<(↑(1+1+1+1+1+1+1):Int))∧1+1+1+1+1+1+1+(1:Nat)≤(4294967296:Nat)∧bif m then((0:Int)≤(0:Int)∧(0:Int)<(↑7:Int))∧bif ilt a 0 then K (.tup [.int .u64 0,.int .i64 2]) []else((0:Int)≤(0:Int)∧(0:Int)<(↑7:Int))∧(0:Int)≤(12:Int)∧bif ile (W (1*2^min (Int.toNat 12) (IntKind.bits .i64))) a then K (.tup [.int .u64 0,.int .i64 2]) []else((0:Int)≤(0:Int)∧(0:Int)<(↑(1+1+1+1+1+1+1+1):Int))∧(0:Int)≤(0:Int)∧((0:Int)≤W (0+1)∧W (0+1)<(↑7:Int))∧bif ilt b 0 then K (.tup [.int .u64 0,.int .i64 2]) []else((0:Int)≤W (0+1)∧W (0+1)<(↑7:Int))∧(0:Int)≤(9:Int)∧bif ile (W (1*2^min (Int.toNat 9) (IntKind.bits .i64))) b then K (.tup [.int .u64 0,.int .i64 2]) []else((0:Int)≤W (0+1)∧W (0+1)<(↑(1+1+1+1+1+1+1+1):Int))∧(0:Int)≤W (0+12)∧((0:Int)≤W (W (0+1)+1)∧W (W (0+1)+1)<(↑7:Int))∧bif ilt c 0 then K (.tup [.int .u64 0,.int .i64 2]) []else((0:Int)≤W (W (0+1)+1)∧W (W (0+1)+1)<(↑7:Int))∧(0:Int)≤(18:Int)∧bif ile (W (1*2^min (Int.toNat 18) (IntKind.bits .i64))) c then K (.tup [.int .u64 0,.int .i64 2]) []else((0:Int)≤W (W (0+1)+1)∧W (W (0+1)+1)<(↑(1+1+1+1+1+1+1+1):Int))∧(0:Int)≤W (W (0+12)+9)∧((0:Int)≤W (W (W (0+1)+1)+1)∧W (W (W (0+1)+1)+1)<(↑7:Int))∧bif ilt d 0 then K (.tup [.int .u64 0,.int .i64 2]) []else((0:Int)≤W (W (W (0+1)+1)+1)∧W (W (W (0+1)+1)+1)<(↑7:Int))∧(0:Int)≤(9:Int)∧bif ile (W (1*2^min (Int.toNat 9) (IntKind.bits .i64))) d then K (.tup [.int .u64 0,.int .i64 2]) []else((0:Int)≤W (W (W (0+1)+1)+1)∧W (W (W (0+1)+1)+1)<(↑(1+1+1+1+1+1+1+1):Int))∧(0:Int)≤W (W (W (0+12)+9)+18)∧((0:Int)≤W (W (W (W (0+1)+1)+1)+1)∧W (W (W (W (0+1)+1)+1)+1)<(↑7:Int))∧((0:Int)≤W (W (W (W (0+1)+1)+1)+1)∧W (W (W (W (0+1)+1)+1)+1)<(↑7:Int))∧(0:Int)≤(1:Int)∧((0:Int)≤W (W (W (W (0+1)+1)+1)+1)∧W (W (W (W (0+1)+1)+1)+1)<(↑(1+1+1+1+1+1+1+1):Int))∧(0:Int)≤W (W (W (W (0+12)+9)+18)+9)∧((0:Int)≤W (W (W (W (W (0+1)+1)+1)+1)+1)∧W (W (W (W (W (0+1)+1)+1)+1)+1)<(↑7:Int))∧bif ilt e 0 then K (.tup [.int .u64 0,.int .i64 2]) []else((0:Int)≤W (W (W (W (W (0+1)+1)+1)+1)+1)∧W (W (W (W (W (0+1)+1)+1)+1)+1)<(↑7:Int))∧(0:Int)≤(3:Int)∧bif ile (W (1*2^min (Int.toNat 3) (IntKind.bits .i64))) e then K (.tup [.int .u64 0,.int .i64 2]) []else((0:Int)≤W (W (W (W (W (0+1)+1)+1)+1)+1)∧W (W (W (W (W (0+1)+1)+1)+1)+1)<(↑(1+1+1+1+1+1+1+1):Int))∧(0:Int)≤W (W (W (W (W (0+12)+9)+18)+9)+1)∧((0:Int)≤W (W (W (W (W (W (0+1)+1)+1)+1)+1)+1)∧W (W (W (W (W (W (0+1)+1)+1)+1)+1)+1)<(↑7:Int))∧bif ilt f 0 then K (.tup [.int .u64 0,.int .i64 2]) []else((0:Int)≤W (W (W (W (W (W (0+1)+1)+1)+1)+1)+1)∧W (W (W (W (W (W (0+1)+1)+1)+1)+1)+1)<(↑7:Int))∧(0:Int)≤(10:Int)∧bif ile (W (1*2^min (Int.toNat 10) (IntKind.bits .i64))) f then K (.tup [.int .u64 0,.int .i64 2]) []else((0:Int)≤W (W (W (W (W (W (0+1)+1)+1)+1)+1)+1)∧W (W (W (W (W (W (0+1)+1)+1)+1)+1)+1)<(↑(1+1+1+1+1+1+1+1):Int))∧(0:Int)≤W (W (W (W (W (W (0+12)+9)+18)+9)+1)+3)∧K (.tup [.int .u64 (WU (↑(BitVec.toNat (BitVec.ofInt (IntKind.bits .u64) (WU (↑(BitVec.toNat (BitVec.ofInt (IntKind.bits .u64) (WU (↑(BitVec.toNat (BitVec.ofInt (IntKind.bits .u64) (WU (↑(BitVec.toNat (BitVec.ofInt (IntKind.bits .u64) (WU (↑(BitVec.toNat (BitVec.ofInt (IntKind.bits .u64) (WU (↑(BitVec.toNat (BitVec.ofInt (IntKind.bits .u64) (WU (↑(BitVec.toNat (BitVec.ofInt (IntKind.bits .u64) 0|||BitVec.ofInt (IntKind.bits .u64) (WU (WU a*2^min (Int.toNat 0) (IntKind.bits .u64))))):Int))|||BitVec.ofInt (IntKind.bits .u64) (WU (WU b*2^min (Int.toNat (W (0+12))) (IntKind.bits .u64))))):Int))|||BitVec.ofInt (IntKind.bits .u64) (WU (WU c*2^min (Int.toNat (W (W (0+12)+9))) (IntKind.bits .u64))))):Int))|||BitVec.ofInt (IntKind.bits .u64) (WU (WU d*2^min (Int.toNat (W (W (W (0+12)+9)+18))) (IntKind.bits .u64))))):Int))|||BitVec.ofInt (IntKind.bits .u64) (WU (WU 1*2^min (Int.toNat (W (W (W (W (0+12)+9)+18)+9))) (IntKind.bits .u64))))):Int))|||BitVec.ofInt (IntKind.bits .u64) (WU (WU e*2^min (Int.toNat (W (W (W (W (W (0+12)+9)+18)+9)+1))) (IntKind.bits .u64))))):Int))|||BitVec.ofInt (IntKind.bits .u64) (WU (WU f*2^min (Int.toNat (W (W (W (W (W (W (0+12)+9)+18)+9)+1)+3))) (IntKind.bits .u64))))):Int)),.int .i64 0]) []else((0:Int)≤(0:Int)∧(0:Int)<(↑7:Int))∧bif ilt a 0 then K (.tup [.int .u64 0,.int .i64 2]) []else((0:Int)≤(0:Int)∧(0:Int)<(↑7:Int))∧(0:Int)≤(12:Int)∧bif ile (W (1*2^min (Int.toNat 12) (IntKind.bits .i64))) a then K (.tup [.int .u64 0,.int .i64 2]) []else((0:Int)≤(0:Int)∧(0:Int)<(↑(1+1+1+1+1+1+1+1):Int))∧(0:Int)≤(0:Int)∧((0:Int)≤W (0+1)∧W (0+1)<(↑7:Int))∧bif ilt b 0 then K (.tup [.int .u64 0,.int .i64 2]) []else((0:Int)≤W (0+1)∧W (0+1)<(↑7:Int))∧(0:Int)≤(9:Int)∧bif ile (W (1*2^min (Int.toNat 9) (IntKind.bits .i64))) b then K (.tup [.int .u64 0,.int .i64 2]) []else((0:Int)≤W (0+1)∧W (0+1)<(↑(1+1+1+1+1+1+1+1):Int))∧(0:Int)≤W (0+12)∧((0:Int)≤W (W (0+1)+1)∧W (W (0+1)+1)<(↑7:Int))∧bif ilt c 0 then K (.tup [.int .u64 0,.int .i64 2]) []else((0:Int)≤W (W (0+1)+1)∧W (W (0+1)+1)<(↑7:Int))∧(0:Int)≤(18:Int)∧bif ile (W (1*2^min (Int.toNat 18) (IntKind.bits .i64))) c then K (.tup [.int .u64 0,.int .i64 2]) []else((0:Int)≤W (W (0+1)+1)∧W (W (0+1)+1)<(↑(1+1+1+1+1+1+1+1):Int))∧(0:Int)≤W (W (0+12)+9)∧((0:Int)≤W (W (W (0+1)+1)+1)∧W (W (W (0+1)+1)+1)<(↑7:Int))∧bif ilt d 0 then K (.tup [.int .u64 0,.int .i64 2]) []else((0:Int)≤W (W (W (0+1)+1)+1)∧W (W (W (0+1)+1)+1)<(↑7:Int))∧(0:Int)≤(9:Int)∧bif ile (W (1*2^min (Int.toNat 9) (IntKind.bits .i64))) d then K (.tup [.int .u64 0,.int .i64 2]) []else((0:Int)≤W (W (W (0+1)+1)+1)∧W (W (W (0+1)+1)+1)<(↑(1+1+1+1+1+1+1+1):Int))∧(0:Int)≤W (W (W (0+12)+9)+18)∧((0:Int)≤W (W (W (W (0+1)+1)+1)+1)∧W (W (W (W (0+1)+1)+1)+1)<(↑7:Int))∧((0:Int)≤W (W (W (W (0+1)+1)+1)+1)∧W (W (W (W (0+1)+1)+1)+1)<(↑7:Int))∧(0:Int)≤(1:Int)∧((0:Int)≤W (W (W (W (0+1)+1)+1)+1)∧W (W (W (W (0+1)+1)+1)+1)<(↑(1+1+1+1+1+1+1+1):Int))∧(0:Int)≤W (W (W (W (0+12)+9)+18)+9)∧((0:Int)≤W (W (W (W (W (0+1)+1)+1)+1)+1)∧W (W (W (W (W (0+1)+1)+1)+1)+1)<(↑7:Int))∧bif ilt e 0 then K (.tup [.int .u64 0,.int .i64 2]) []else((0:Int)≤W (W (W (W (W (0+1)+1)+1)+1)+1)∧W (W (W (W (W (0+1)+1)+1)+1)+1)<(↑7:Int))∧(0:Int)≤(3:Int)∧bif ile (W (1*2^min (Int.toNat 3) (IntKind.bits .i64))) e then K (.tup [.int .u64 0,.int .i64 2]) []else((0:Int)≤W (W (W (W (W (0+1)+1)+1)+1)+1)∧W (W (W (W (W (0+1)+1)+1)+1)+1)<(↑(1+1+1+1+1+1+1+1):Int))∧(0:Int)≤W (W (W (W (W (0+12)+9)+18)+9)+1)∧((0:Int)≤W (W (W (W (W (W (0+1)+1)+1)+1)+1)+1)∧W (W (W (W (W (W (0+1)+1)+1)+1)+1)+1)<(↑7:Int))∧bif ilt f 0 then K (.tup [.int .u64 0,.int .i64 2]) []else((0:Int)≤W (W (W (W (W (W (0+1)+1)+1)+1)+1)+1)∧W (W (W (W (W (W (0+1)+1)+1)+1)+1)+1)<(↑7:Int))∧(0:Int)≤(10:Int)∧bif ile (W (1*2^min (Int.toNat 10) (IntKind.bits .i64))) f then K (.tup [.int .u64 0,.int .i64 2]) []else((0:Int)≤W (W (W (W (W (W (0+1)+1)+1)+1)+1)+1)∧W (W (W (W (W (W (0+1)+1)+1)+1)+1)+1)<(↑(1+1+1+1+1+1+1+1):Int))∧(0:Int)≤W (W (W (W (W (W (0+12)+9)+18)+9)+1)+3)∧K (.tup [.int .u64 (WU (↑(BitVec.toNat (BitVec.ofInt (IntKind.bits .u64) (WU (↑(BitVec.toNat (BitVec.ofInt (IntKind.bits .u64) (WU (↑(BitVec.toNat (BitVec.ofInt (IntKind.bits .u64) (WU (↑(BitVec.toNat (BitVec.ofInt (IntKind.bits .u64) (WU (↑(BitVec.toNat (BitVec.ofInt (IntKind.bits .u64) (WU (↑(BitVec.toNat (BitVec.ofInt (IntKind.bits .u64) (WU (↑(BitVec.toNat (BitVec.ofInt (IntKind.bits .u64) 0|||BitVec.ofInt (IntKind.bits .u64) (WU (WU a*2^min (Int.toNat 0) (IntKind.bits .u64))))):Int))|||BitVec.ofInt (IntKind.bits .u64) (WU (WU b*2^min (Int.toNat (W (0+12))) (IntKind.bits .u64))))):Int))|||BitVec.ofInt (IntKind.bits .u64) (WU (WU c*2^min (Int.toNat (W (W (0+12)+9))) (IntKind.bits .u64))))):Int))|||BitVec.ofInt (IntKind.bits .u64) (WU (WU d*2^min (Int.toNat (W (W (W (0+12)+9)+18))) (IntKind.bits .u64))))):Int))|||BitVec.ofInt (IntKind.bits .u64) (WU (WU 0*2^min (Int.toNat (W (W (W (W (0+12)+9)+18)+9))) (IntKind.bits .u64))))):Int))|||BitVec.ofInt (IntKind.bits .u64) (WU (WU e*2^min (Int.toNat (W (W (W (W (W (0+12)+9)+18)+9)+1))) (IntKind.bits .u64))))):Int))|||BitVec.ofInt (IntKind.bits .u64) (WU (WU f*2^min (Int.toNat (W (W (W (W (W (W (0+12)+9)+18)+9)+1)+3))) (IntKind.bits .u64))))):Int)),.int .i64 0]) []) (by kernel_rfl) ?_)
 have no:dOk a b c d e f=false→K (.tup [.int .u64 0,.int .i64 2]) []:=by intro h;rw [h]at hK;exact hK
 have yes:dOk a b c d e f=true→K (.tup [.int .u64 (cK a b c d m e f),.int .i64 0]) []:=by intro h;rw [h]at hK;exact hK
 clear hK hp;have w10:W (1*2^min (Int.toNat 10) (IntKind.bits .i64))=1024:=by decide
 have w12:W (1*2^min (Int.toNat 12) (IntKind.bits .i64))=4096:=by decide
 have w9:W (1*2^min (Int.toNat 9) (IntKind.bits .i64))=512:=by decide
 have w18:W (1*2^min (Int.toNat 18) (IntKind.bits .i64))=262144:=by decide
 have w3:W (1*2^min (Int.toNat 3) (IntKind.bits .i64))=8:=by decide
 rw [w10,w12,w9,w18,w3]
 simp(disch:=omega) only [W,cW,Int.reduceAdd,Int.zero_add,Int.reduceToNat]
 cases m
 ·simp only [cond_true,cond_false]
  repeat' first
   | refine⟨by omega,?_⟩
   | refine IK (fun _=>?_) (fun _=>?_)
   | refine xF (fun _=>?_) (fun _=>?_)
  all_goals first
   | exact no (by cases h:dOk a b c d e f with
                  | false=>rfl
                  | true=>have:=pQ.1 h;omega)
   | skip
  have ok:dOk a b c d e f=true:=pQ.2 (by omega)
  refine cast (congrArg (fun z=>K (AVal.tup [.int .u64 z,.int .i64 0]) []) ?_) (yes ok);symm;have hb:IntKind.bits .u64 =64:=rfl;rw [hb];clear yes no ok;have q0:=gC (a:=0) (x:=0) (y:=a) (p:=1) (q:=2^min 0 64) (s:=a) (by decide) (by omega) (by omega) (by omega) (by omega) (by decide)
  have q1:=gC (a:=12) (x:=a) (y:=b) (p:=4096) (q:=2^min 12 64) (s:=a+b*4096) (by decide) (by omega) (by omega) (by omega) (by omega) (by decide)
  have q2:=gC (a:=21) (x:=a+b*4096) (y:=c) (p:=2097152) (q:=2^min 21 64) (s:=a+b*4096+c*2097152) (by decide) (by omega) (by omega) (by omega) (by omega) (by decide)
  have q3:=gC (a:=39) (x:=a+b*4096+c*2097152) (y:=d) (p:=549755813888) (q:=2^min 39 64) (s:=a+b*4096+c*2097152+d*549755813888) (by decide) (by omega) (by omega) (by omega) (by omega) (by decide)
  have q4:=gC (a:=48) (x:=a+b*4096+c*2097152+d*549755813888) (y:=0) (p:=281474976710656) (q:=2^min 48 64) (s:=a+b*4096+c*2097152+d*549755813888+0*281474976710656) (by decide) (by omega) (by omega) (by omega) (by omega) (by decide)
  have q5:=gC (a:=49) (x:=a+b*4096+c*2097152+d*549755813888+0*281474976710656) (y:=e) (p:=562949953421312) (q:=2^min 49 64) (s:=a+b*4096+c*2097152+d*549755813888+0*281474976710656+e*562949953421312) (by decide) (by omega) (by omega) (by omega) (by omega) (by decide)
  have q6:=gC (a:=52) (x:=a+b*4096+c*2097152+d*549755813888+0*281474976710656+e*562949953421312) (y:=f) (p:=4503599627370496) (q:=2^min 52 64) (s:=a+b*4096+c*2097152+d*549755813888+0*281474976710656+e*562949953421312+f*4503599627370496) (by decide) (by omega) (by omega) (by omega) (by omega) (by decide)
  simp only [WU]at q0 q1 q2 q3 q4 q5 q6⊢;rw [q0,q1,q2,q3,q4,q5,q6];unfold cK bitI;rfl
 ·simp only [cond_true,cond_false]
  repeat' first
   | refine⟨by omega,?_⟩
   | refine IK (fun _=>?_) (fun _=>?_)
   | refine xF (fun _=>?_) (fun _=>?_)
  all_goals first
   | exact no (by cases h:dOk a b c d e f with
                  | false=>rfl
                  | true=>have:=pQ.1 h;omega)
   | skip
  have ok:dOk a b c d e f=true:=pQ.2 (by omega)
  refine cast (congrArg (fun z=>K (AVal.tup [.int .u64 z,.int .i64 0]) []) ?_) (yes ok);symm;have hb:IntKind.bits .u64 =64:=rfl;rw [hb];clear yes no ok;have q0:=gC (a:=0) (x:=0) (y:=a) (p:=1) (q:=2^min 0 64) (s:=a) (by decide) (by omega) (by omega) (by omega) (by omega) (by decide)
  have q1:=gC (a:=12) (x:=a) (y:=b) (p:=4096) (q:=2^min 12 64) (s:=a+b*4096) (by decide) (by omega) (by omega) (by omega) (by omega) (by decide)
  have q2:=gC (a:=21) (x:=a+b*4096) (y:=c) (p:=2097152) (q:=2^min 21 64) (s:=a+b*4096+c*2097152) (by decide) (by omega) (by omega) (by omega) (by omega) (by decide)
  have q3:=gC (a:=39) (x:=a+b*4096+c*2097152) (y:=d) (p:=549755813888) (q:=2^min 39 64) (s:=a+b*4096+c*2097152+d*549755813888) (by decide) (by omega) (by omega) (by omega) (by omega) (by decide)
  have q4:=gC (a:=48) (x:=a+b*4096+c*2097152+d*549755813888) (y:=1) (p:=281474976710656) (q:=2^min 48 64) (s:=a+b*4096+c*2097152+d*549755813888+1*281474976710656) (by decide) (by omega) (by omega) (by omega) (by omega) (by decide)
  have q5:=gC (a:=49) (x:=a+b*4096+c*2097152+d*549755813888+1*281474976710656) (y:=e) (p:=562949953421312) (q:=2^min 49 64) (s:=a+b*4096+c*2097152+d*549755813888+1*281474976710656+e*562949953421312) (by decide) (by omega) (by omega) (by omega) (by omega) (by decide)
  have q6:=gC (a:=52) (x:=a+b*4096+c*2097152+d*549755813888+1*281474976710656+e*562949953421312) (y:=f) (p:=4503599627370496) (q:=2^min 52 64) (s:=a+b*4096+c*2097152+d*549755813888+1*281474976710656+e*562949953421312+f*4503599627370496) (by decide) (by omega) (by omega) (by omega) (by omega) (by decide)
  simp only [WU]at q0 q1 q2 q3 q4 q5 q6⊢;rw [q0,q1,q2,q3,q4,q5,q6];unfold cK bitI;rfl
noncomputable def E20:=(E16.addR 190 NX T8).addR 199 NY T9
def eV(a:Int):Int:=(a+1)%4096
def F1:bF Ob:=fun args h=>match args,h with
 | [.agg [.int .i64 a,.int .i64 b,.int .i64 c,.int .i64 d,.bool m,.int .i64 e,.int .i64 f]],[]=>some (0≤a∧a≤1000000,.agg [.int .i64 (eV a),.int .i64 0,.int .i64 0,.int .i64 0,.bool false,.int .i64 1,.int .i64 0])
 | _,_=>none
theorem PX:aH.ok E20.I Tryz.prog 223 F1.spec:=by
 intro args h o ho K hK;unfold bF.spec at ho;split at ho
 case h_2=>cases ho
 rename_i pp vv hv;unfold F1 at hv;split at hv
 case h_2=>cases hv
 rename_i a b c d m e f;simp only [sI',pI']at hv;obtain⟨rfl,rfl⟩:=hv;simp only [sI']at ho;subst ho;obtain⟨hp,hK⟩:=hK;have hK:K (.agg [.int .i64 (eV a),.int .i64 0,.int .i64 0,.int .i64 0,.bool false,.int .i64 1,.int .i64 0]) []:=hK;refine aIl (cM' (E:=E20) (q:=K (.agg [.int .i64 (W (↑(BitVec.toNat (BitVec.ofInt (IntKind.bits .i64) (W (a+1))&&&BitVec.ofInt (IntKind.bits .i64) 4095)):Int)),.int .i64 0,.int .i64 0,.int .i64 0,.bool false,.int .i64 1,.int .i64 0]) []) (by kernel_rfl) ?_)
 refine cast (congrArg (fun z=>K (.agg [.int .i64 z,.int .i64 0,.int .i64 0,.int .i64 0,.bool false,.int .i64 1,.int .i64 0]) []) ?_) hK;show eV a=_;have hb:IntKind.bits .i64 =64:=rfl;simp only [W];rw [hb,cW (x:=a+1) (by omega)]
 have:=jO (n:=64) (w:=12) (a+1) (by omega)
 have e:(2:Int)^12 - 1=4095:=by decide
 rw [e]at this;rw [this];have e2:(2:Int)^12=4096:=by decide
 rw [e2,cW (by omega)]
 rfl
def F8:bF Ob:=fun args h=>match args,h with
 | [.agg [.int .i64 a,.int .i64 b,.int .i64 c,.int .i64 d,.bool m,.int .i64 e,.int .i64 f]],[]=>some (True,.bool (nJ e))
 | _,_=>none
theorem P6:aH.ok E8.I Tryz.prog 192 F8.spec:=by
 intro args h o ho K hK;unfold bF.spec at ho;split at ho
 case h_2=>cases ho
 rename_i pp vv hv;unfold F8 at hv;split at hv
 case h_2=>cases hv
 rename_i a b c d m e f;simp only [sI',pI']at hv;obtain⟨rfl,rfl⟩:=hv;simp only [sI']at ho;subst ho;obtain⟨hp,hK⟩:=hK;have hK:K (.bool (nJ e)) []:=hK;refine aIl (cM' (E:=E8) (q:=((0:Int)≤(0:Int)∧(0:Int)<(↑4:Int))∧bif ieq e 1 then K (.bool true) []else((0:Int)≤W (0+1)∧W (0+1)<(↑4:Int))∧bif ieq e 2 then K (.bool true) []else((0:Int)≤W (W (0+1)+1)∧W (W (0+1)+1)<(↑4:Int))∧bif ieq e 3 then K (.bool true) []else((0:Int)≤W (W (W (0+1)+1)+1)∧W (W (W (0+1)+1)+1)<(↑4:Int))∧bif ieq e 4 then K (.bool true) []else K (.bool false) []) (by kernel_rfl) ?_)
 have hb: ∀v:Bool,nJ e=v→K (.bool v) []:=by intro v h;rw [←h];exact hK
 have yes:1≤e∧e≤4→nJ e=true:=by intro h;unfold nJ;rw [bX,bX,decide_eq_true h.1,decide_eq_true h.2];rfl
 have no: ¬(1≤e∧e≤4)→nJ e=false:=by
  intro h;unfold nJ;rw [bX,bX]
  by_cases h1:1≤e
  ·rw [decide_eq_true h1,decide_eq_false (by omega)];rfl
  ·rw [decide_eq_false h1];rfl
 simp(disch:=omega) only [W,cW,Int.reduceAdd,Int.zero_add]
 repeat' first
  | refine⟨by omega,?_⟩
  | refine HN (fun _=>?_) (fun _=>?_)
 all_goals first
  | exact hb _ (yes (by omega))
  | exact hb _ (no (by omega))
def QR:bF Ob:=fun args h=>match args,h with
 | [.agg [.int .i64 a,.int .i64 b,.int .i64 c,.int .i64 d,.bool m,.int .i64 e,.int .i64 f]],[]=>some (True,.agg [.int .i64 (resC d e),.bool (X7 d e m),.int .i64 (X8 d e f)])
 | _,_=>none
theorem X6:aH.ok E20.I Tryz.prog 224 QR.spec:=by
 intro args h o ho K hK;unfold bF.spec at ho;split at ho
 case h_2=>cases ho
 rename_i pp vv hv;unfold QR at hv;split at hv
 case h_2=>cases hv
 rename_i a b c d m e f;simp only [sI',pI']at hv;obtain⟨rfl,rfl⟩:=hv;simp only [sI']at ho;subst ho;obtain⟨hp,hK⟩:=hK;have hK:K (.agg [.int .i64 (resC d e),.bool (X7 d e m),.int .i64 (X8 d e f)]) []:=hK;refine aIl (cM' (E:=E20) (q:=bif !ieq e 5 then K (.agg [.int .i64 5,.bool false,.int .i64 0]) []else bif ieq d 1 then K (.agg [.int .i64 4,.bool false,.int .i64 0]) []else K (.agg [.int .i64 0,.bool m,.int .i64 f]) []) (by kernel_rfl) ?_)
 unfold resC X7 X8 at hK;generalize ieq e 5=b1 at hK⊢;generalize ieq d 1=b2 at hK⊢;cases b1<;>cases b2<;>exact hK
def FC:bF Ob:=fun args h=>match args,h with
 | [.agg [.int .i64 a,.int .i64 b,.int .i64 c,.int .i64 d,.bool m,.int .i64 e,.int .i64 f],.agg [.int .i64 g,.bool o,.int .i64 v]],[]=>some (True,.agg [.int .i64 a,.int .i64 0,.int .i64 0,.int .i64 (bif ieq g 4 then 1 else 0),.bool o,.int .i64 5,.int .i64 v])
 | _,_=>none
theorem OO:aH.ok E20.I Tryz.prog 200 FC.spec:=by
 intro args h o ho K hK;unfold bF.spec at ho;split at ho
 case h_2=>cases ho
 rename_i pp vv hv;unfold FC at hv;split at hv
 case h_2=>cases hv
 rename_i a b c d m e f g o v;simp only [sI',pI']at hv;obtain⟨rfl,rfl⟩:=hv;simp only [sI']at ho;subst ho;obtain⟨hp,hK⟩:=hK;have hK:K (.agg [.int .i64 a,.int .i64 0,.int .i64 0,.int .i64 (bif ieq g 4 then 1 else 0),.bool o,.int .i64 5,.int .i64 v]) []:=hK;refine aIl (cM' (E:=E20) (q:=bif ieq g 4 then K (.agg [.int .i64 a,.int .i64 0,.int .i64 0,.int .i64 1,.bool o,.int .i64 5,.int .i64 v]) []else K (.agg [.int .i64 a,.int .i64 0,.int .i64 0,.int .i64 0,.bool o,.int .i64 5,.int .i64 v]) []) (by kernel_rfl) ?_)
 generalize ieq g 4=b1 at hK⊢;cases b1<;>exact hK
noncomputable def E21a:=(((((E20.addR 223 F1 PX).addR 192 F8 P6).addR 224 QR X6).addR 200 FC OO))
noncomputable def E21:=(E21a)
theorem l9{s k y:Int} :bU s k y=true↔(((s=1∨s=2)∧1≤k∧k≤3)∨((s=3∨s=4)∧(k=4∨k=5)))∧0≤y∧y≤999∧(k=5→y≤0):=by
 have hm:(bif ieq k 5 then(0:Int)else 999)=if k=5 then 0 else 999:=by
  rw [cF];by_cases h:k=5
  ·simp [h]
  ·have h':(k == 5)=false:=by simpa using h
   rw [h',if_neg h];rfl
 have hk:k∈eO s↔(((s=1∨s=2)∧1≤k∧k≤3)∨((s=3∨s=4)∧(k=4∨k=5))):=by
  unfold eO;rw [cF,cF,cF,cF]
  by_cases h1:s=1
  ·subst h1;simp;omega
  by_cases h2:s=2
  ·subst h2;simp;omega
  by_cases h3:s=3
  ·subst h3;simp
  by_cases h4:s=4
  ·subst h4;simp
  have g1:(s == 1)=false:=by simpa using h1
  have g2:(s == 2)=false:=by simpa using h2
  have g3:(s == 3)=false:=by simpa using h3
  have g4:(s == 4)=false:=by simpa using h4
  rw [g1,g2,g3,g4];simp [h1,h2,h3,h4]
 unfold bU;rw [Bool.and_eq_true,Bool.and_eq_true,jI,hk,bX,bX,dT',dT',hm]
 by_cases h5:k=5
 ·simp [h5];omega
 ·simp [h5]
def tskV(s k y:Int):Int:=s+8*k+64*y
def RU:bF Ob:=fun args h=>match args,h with
 | [.agg [.int .i64 s,.int .i64 k,.int .i64 y]],[]=>some (True,.tup [.int .u64 (bif bU s k y then tskV s k y else 0),.int .i64 (bif bU s k y then 0 else 1)])
 | _,_=>none
theorem YW:aH.ok E21.I Tryz.prog 269 RU.spec:=by
 intro args h o ho K hK;unfold bF.spec at ho;split at ho
 case h_2=>cases ho
 rename_i pp vv hv;unfold RU at hv;split at hv
 case h_2=>cases hv
 rename_i s k y;simp only [sI',pI']at hv;obtain⟨rfl,rfl⟩:=hv;simp only [sI']at ho;subst ho;obtain⟨hp,hK⟩:=hK;have hK:K (.tup [.int .u64 (bif bU s k y then tskV s k y else 0),.int .i64 (bif bU s k y then 0 else 1)]) []:=hK;refine aIl (cM' (E:=E21) (q:=True∧bif !bU s k y then K (.tup [.int .u64 0,.int .i64 1]) []else(0:Int)≤(3:Int)∧(0:Int)≤(6:Int)∧K (.tup [.int .u64 (WU (W (↑(BitVec.toNat (BitVec.ofInt (IntKind.bits .i64) (W (↑(BitVec.toNat (BitVec.ofInt (IntKind.bits .i64) s|||BitVec.ofInt (IntKind.bits .i64) (W (k*2^min (Int.toNat 3) (IntKind.bits .i64))))):Int))|||BitVec.ofInt (IntKind.bits .i64) (W (y*2^min (Int.toNat 6) (IntKind.bits .i64))))):Int))),.int .i64 0]) []) (by kernel_rfl) ?_)
 refine⟨trivial,aM (fun e=>?_) (fun e=>⟨by omega,by omega,?_⟩)⟩
 ·rw [aCM e]at hK;exact hK
 ·have e:=aCL e;rw [e]at hK;have h:=l9.1 e;refine cast (congrArg (fun z=>K (.tup [.int .u64 z,.int .i64 0]) []) ?_) hK;show tskV s k y=_;have hb:IntKind.bits .i64 =64:=rfl;rw [hb];have p3:(2:Int)^min (Int.toNat 3) 64=2^3:=by decide
  have p6:(2:Int)^min (Int.toNat 6) 64=2^6:=by decide
  have v3:(2:Int)^3=8:=by decide
  have v6:(2:Int)^6=64:=by decide
  have v64:(2:Int)^64=18446744073709551616:=by decide
  rw [p3,p6];have q1:=u6 (n:=64) (a:=3) (x:=s) (y:=k) (by omega) (by omega) (by omega)
  have w1:W (k*2^3)=k*2^3:=yA (by omega)
  rw [w1,q1];have w2:W (s+k*2^3)=s+k*2^3:=yA (by omega)
  have w3:W (y*2^6)=y*2^6:=yA (by omega)
  have q2:=u6 (n:=64) (a:=6) (x:=s+k*2^3) (y:=y) (by omega) (by omega) (by omega)
  rw [w2,w3,q2];have w4:W (s+k*2^3+y*2^6)=s+k*2^3+y*2^6:=yA (by omega)
  have w5:WU (s+k*2^3+y*2^6)=s+k*2^3+y*2^6:=mS (by omega)
  rw [w4,w5,v3,v6];unfold tskV;omega
def aCI:bF Ob:=fun args h=>match args,h with
 | [.int .i64 s,.agg [.int .i64 k,.int .i64 y]],[]=>some (True,.bool (bU s k y))
 | _,_=>none
theorem aCJ:aH.ok E21.I Tryz.prog 125 aCI.spec:=by
 intro args h o ho K hK;unfold bF.spec at ho;split at ho
 case h_2=>cases ho
 rename_i pp vv hv;unfold aCI at hv;split at hv
 case h_2=>cases hv
 rename_i s k y;simp only [sI',pI']at hv;obtain⟨rfl,rfl⟩:=hv;simp only [sI']at ho;subst ho;obtain⟨hp,hK⟩:=hK;have hK:K (.bool (bU s k y)) []:=hK;refine aIl (cM' (E:=E21) (q:=bif ilt y 0 then K (.bool false) []else bif ilt 999 y then K (.bool false) []else bif ieq s 1 then bif ile 1 k then K (.bool (ile k 3)) []else K (.bool false) []else bif ieq s 2 then bif ile 1 k then K (.bool (ile k 3)) []else K (.bool false) []else bif ieq s 3 then bif ieq k 4 then K (.bool true) []else bif ieq k 5 then K (.bool (ieq y 0)) []else K (.bool false) []else bif ieq s 4 then bif ieq k 4 then K (.bool true) []else bif ieq k 5 then K (.bool (ieq y 0)) []else K (.bool false) []else K (.bool false) []) (by kernel_rfl) ?_)
 have hb: ∀v:Bool,bU s k y=v→K (.bool v) []:=by intro v h;rw [←h];exact hK
 have yes:=(l9 (s:=s) (k:=k) (y:=y)).2
 have no: ¬((((s=1∨s=2)∧1≤k∧k≤3)∨((s=3∨s=4)∧(k=4∨k=5)))∧0≤y∧y≤999∧(k=5→y≤0))→bU s k y=false:=by
  intro h;cases e:bU s k y with
  | false=>rfl
  | true=>exact(h (l9.1 e)).elim
 have hle: ∀a b:Int,K (.bool (ile a b)) []∨ ¬K (.bool (ile a b)) []:=fun _ _=>Classical.em _
 repeat' first
  | refine IK (fun _=>?_) (fun _=>?_)
  | refine xF (fun _=>?_) (fun _=>?_)
  | refine HN (fun _=>?_) (fun _=>?_)
 all_goals first
  | exact hb _ (no (by omega))
  | exact hb _ (yes (by omega))
  | (rw [bX];by_cases c:k≤3
     ·rw [decide_eq_true c];exact hb _ (yes (by omega))
     ·rw [decide_eq_false c];exact hb _ (no (by omega)))
  | (rw [cF];by_cases c:y=0
     ·subst c;exact hb _ (yes (by omega))
     ·have c':(y == 0)=false:=by simpa using c
      rw [c'];exact hb _ (no (by omega)))
noncomputable def E22a:=((E21.addR 269 RU YW)).addR 125 aCI aCJ
def iU(x:Int):Bool:=ilt x 65536&&bU (aA x 0 3) (aA x 3 3) (aA x 6 10)
theorem yM{z:Int}(w:Nat)(hw:w≤61){c:Int}(hc:c=2^w - 1):IntKind.wrap .i64 (IntKind.wrap .u64 ((BitVec.ofInt 64 z&&&BitVec.ofInt 64 c).toNat :Int))=z%2^w:=by
 subst hc;rw [jO _ (by omega)]
 have h4:=jD w;have h3:(2:Int)^w≤2305843009213693952:=zT (n:=61) hw (by decide)
 have h6:=Int.emod_nonneg z (b:=2^w) (by omega)
 have h7:=Int.emod_lt_of_pos z (b:=2^w) (by omega)
 rw [mS (by omega),cW (by omega)]
def RP:bF Ob:=fun args h=>match args,h with
 | [.int .u64 x],[]=>some (0≤x∧x≤18446744073709551615,.tup [.agg [.int .i64 (bif iU x then aA x 0 3 else 0),.int .i64 (bif iU x then aA x 3 3 else 0),.int .i64 (bif iU x then aA x 6 10 else 0)],.int .i64 (bif iU x then 0 else 3)])
 | _,_=>none
theorem YS:aH.ok E22a.I Tryz.prog 245 RP.spec:=by
 intro args h o ho K hK;unfold bF.spec at ho;split at ho
 case h_2=>cases ho
 rename_i pp vv hv;unfold RP at hv;split at hv
 case h_2=>cases hv
 rename_i x;simp only [sI',pI']at hv;obtain⟨rfl,rfl⟩:=hv;simp only [sI']at ho;subst ho;obtain⟨hp,hK⟩:=hK;have hK:K (.tup [.agg [.int .i64 (bif iU x then aA x 0 3 else 0),.int .i64 (bif iU x then aA x 3 3 else 0),.int .i64 (bif iU x then aA x 6 10 else 0)],.int .i64 (bif iU x then 0 else 3)]) []:=hK;refine aIl (cM' (E:=E22a) (q:=(0:Int)≤(3:Int)∧(0:Int)≤(6:Int)∧(0:Int)≤(16:Int)∧bif !ieq (Int.fdiv x (2^min (Int.toNat 16) (IntKind.bits .u64))) 0 then K (.tup [.agg [.int .i64 0,.int .i64 0,.int .i64 0],.int .i64 3]) []else True∧bif !bU (W (WU (↑(BitVec.toNat (BitVec.ofInt (IntKind.bits .u64) x&&&BitVec.ofInt (IntKind.bits .u64) 7)):Int))) (W (WU (↑(BitVec.toNat (BitVec.ofInt (IntKind.bits .u64) (Int.fdiv x (2^min (Int.toNat 3) (IntKind.bits .u64)))&&&BitVec.ofInt (IntKind.bits .u64) 7)):Int))) (W (WU (↑(BitVec.toNat (BitVec.ofInt (IntKind.bits .u64) (Int.fdiv x (2^min (Int.toNat 6) (IntKind.bits .u64)))&&&BitVec.ofInt (IntKind.bits .u64) 1023)):Int)))then K (.tup [.agg [.int .i64 0,.int .i64 0,.int .i64 0],.int .i64 3]) []else K (.tup [.agg [.int .i64 (W (WU (↑(BitVec.toNat (BitVec.ofInt (IntKind.bits .u64) x&&&BitVec.ofInt (IntKind.bits .u64) 7)):Int))),.int .i64 (W (WU (↑(BitVec.toNat (BitVec.ofInt (IntKind.bits .u64) (Int.fdiv x (2^min (Int.toNat 3) (IntKind.bits .u64)))&&&BitVec.ofInt (IntKind.bits .u64) 7)):Int))),.int .i64 (W (WU (↑(BitVec.toNat (BitVec.ofInt (IntKind.bits .u64) (Int.fdiv x (2^min (Int.toNat 6) (IntKind.bits .u64)))&&&BitVec.ofInt (IntKind.bits .u64) 1023)):Int)))],.int .i64 0]) []) (by kernel_rfl) ?_)
 have hb:IntKind.bits .u64 =64:=rfl;have p3:(2:Int)^min (Int.toNat 3) 64=8:=by decide
 have p6:(2:Int)^min (Int.toNat 6) 64=64:=by decide
 have p16:(2:Int)^min (Int.toNat 16) 64=65536:=by decide
 have c0:aA x 0 3=x%2^3:=by unfold aA;show x / 1%8=x%8;omega
 have c1:aA x 3 3=Int.fdiv x 8%2^3:=by rw [Int.fdiv_eq_ediv_of_nonneg _ (by omega)];rfl
 have c2:aA x 6 10=Int.fdiv x 64%2^10:=by rw [Int.fdiv_eq_ediv_of_nonneg _ (by omega)];rfl
 rw [hb,p3,p6,p16];simp only [W,WU];rw [yM (z:=x) 3 (by omega) (c:=7) (by decide),yM (z:=Int.fdiv x 8) 3 (by omega) (c:=7) (by decide),yM (z:=Int.fdiv x 64) 10 (by omega) (c:=1023) (by decide),←c0,←c1,←c2]
 unfold iU at hK
 have e16:ieq (Int.fdiv x 65536) 0=ilt x 65536:=by
  rw [Int.fdiv_eq_ediv_of_nonneg _ (by omega),cF,bG]
  by_cases h:x<65536
  ·rw [decide_eq_true h];simp;omega
  ·rw [decide_eq_false h];simp;omega
 rw [e16];generalize ilt x 65536=b1 at hK⊢;generalize bU (aA x 0 3) (aA x 3 3) (aA x 6 10)=b2 at hK⊢;refine⟨by omega,by omega,by omega,?_⟩
 cases b1<;>cases b2<;>first | exact hK | exact⟨trivial,hK⟩
noncomputable def E22b:=(E22a.addR 245 RP YS)
def recNewS:aH Ob:=fun args h=>match args,h with
 | [.agg [.int .i64 t,.int .i64 n],.int .i64 me,.agg [.int .i64 s,.int .i64 k,.int .i64 y]],[]=>some (.ret (.ptr 0 0) [some (.cells [.int .i64 t,.int .i64 n,.int .u64 0,.int .i64 me,.int .i64 0,.int .u64 (bif bU s k y then tskV s k y else 0),.bool (!bU s k y),.int .u64 0])])
 | _,_=>none
theorem L4:aH.ok E22b.I Tryz.prog 220 recNewS:=by
 intro args h o ho K hK;unfold recNewS at ho;split at ho<;>cases ho
 rename_i t n me s k y;have hK:K (.ptr 0 0) [some (.cells [.int .i64 t,.int .i64 n,.int .u64 0,.int .i64 me,.int .i64 0,.int .u64 (bif bU s k y then tskV s k y else 0),.bool (!bU s k y),.int .u64 0])]:=hK;refine aIl (cM' (E:=E22b) (q:=True∧K (.ptr 0 0) [some (.cells [.int .i64 t,.int .i64 n,.int .u64 0,.int .i64 me,.int .i64 0,.int .u64 (bif bU s k y then tskV s k y else 0),.bool !ieq (bif bU s k y then 0 else 1) 0,.int .u64 0])]) (by kernel_rfl) ?_)
 generalize bU s k y=b at hK⊢;refine⟨trivial,?_⟩;cases b<;>exact hK
noncomputable def E22:=(E22b.addS 220 recNewS L4)
noncomputable def E23:=E22
noncomputable def E24:=(((((E23)))))
def guardNewS:aH Ob:=fun args h=>match args,h with
 | [.agg [.int .i64 t,.int .i64 n],.slice 0 0 k 1],[some (.ints (some .i64) xs)]=>some (.pre (k=xs.length∧k≤1000000) (.ret (.ptr 1 0) [some (.ints (some .i64) xs),some (.cells [.int .i64 t,.int .i64 n,.raw (.slice none 0 0),.raw (.slice none 0 0),.slice 2 0 xs.length 1,.map 3,.int .i64 0,.raw (.pointer none)]),some (.ints (some .i64) xs),some (.imap .i64 none [])]))
 | _,_=>none
theorem B8:aH.ok E24.I Tryz.prog 234 guardNewS:=by
 intro args h o ho K hK;unfold guardNewS at ho;split at ho<;>cases ho
 rename_i t n k xs;obtain⟨⟨rfl,hp⟩,hK⟩:=hK;refine aIl (cM' (E:=E24) (q:=((lE' xs∧xs.length≤(4294967296:Nat))∧True)∧K (.ptr 1 0) [some (.ints (some .i64) xs),some (.cells [.int .i64 t,.int .i64 n,.raw (Value.slice none 0 0),.raw (Value.slice none 0 0),.slice 2 0 xs.length 1,.map 3,.int .i64 0,.raw (Value.pointer none)]),some (.ints (some .i64) xs),some (.imap .i64 none [])]) (by kernel_rfl) ?_)
 exact⟨⟨⟨rfl,by omega⟩,trivial⟩,hK⟩
def backS:aH Ob:=fun args h=>match args,h with
 | [.agg [.int .i64 t,.int .i64 n],.slice 0 0 k 1],[some (.ints (some .i64) xs)]=>some (.pre (k=xs.length∧k≤1000000) (.ret (.ptr 1 0) [some (.ints (some .i64) xs),some (.cells [.int .i64 t,.int .i64 n,.slice 2 0 xs.length 1]),some (.ints (some .i64) xs)]))
 | _,_=>none
theorem TP:aH.ok E24.I Tryz.prog 295 backS:=by
 intro args h o ho K hK;unfold backS at ho;split at ho<;>cases ho
 rename_i t n k xs;obtain⟨⟨rfl,hp⟩,hK⟩:=hK;refine aIl (cM' (E:=E24) (q:=((lE' xs∧xs.length≤(4294967296:Nat))∧True)∧K (.ptr 1 0) [some (.ints (some .i64) xs),some (.cells [.int .i64 t,.int .i64 n,.slice 2 0 xs.length 1]),some (.ints (some .i64) xs)]) (by kernel_rfl) ?_)
 exact⟨⟨⟨rfl,by omega⟩,trivial⟩,hK⟩
noncomputable def E35a:=(E24.addS 234 guardNewS B8).addS 295 backS TP
def mhas(m:List (Int×Int))(n:Int):Bool:=!ieq (Option.getD (mget m n) 0) 0
def cI(m:List (Int×Int))(xs:List Int):List Int:=xs.filter (mhas m)
def aW(m:List (Int×Int))(xs:List Int):List Int:=xs.filter (fun n=>!mhas m n)
structure aFL (m:List (Int×Int)) (xs:List Int) (x:Nat×List Int×List Int):Prop where
 h1:x.1≤xs.length
 h2:x.2.1=cI m (xs.take x.1)
 h3:x.2.2=aW m (xs.take x.1)
def DS(t n at':Int)(m:List (Int×Int))(xs:List Int):Hint Ob:= {X:=Nat×List Int×List Int,st:=fun x=>([.ptr 0 0,.O,.O,.O,.O,.O,.O,.O,.slice 1 0 xs.length 1,.int .i64 (xs.length:Int),.int .i64 (x.1:Int)]++List.replicate 48 .O,[some (.cells [.int .i64 t,.int .i64 n,.slice 3 0 x.2.1.length 1,.slice 4 0 x.2.2.length 1,.slice 1 0 xs.length 1,.map 2,.int .i64 at',.raw (.pointer none)]),some (.ints (some .i64) xs),some (.imap .i64 none m),some (.ints (some .i64) x.2.1),some (.ints (some .i64) x.2.2)]),ok:=aFL m xs,mu:=fun x=>xs.length - x.1,keep:=[0,8,9,10],casts:=[(.cell 0 2,.ints (some .i64)),(.cell 0 3,.ints (some .i64))] }
def partsS:aH Ob:=fun args h=>match args,h with
 | [.ptr 0 0],[some (.cells [.int .i64 t,.int .i64 n,.raw (.slice none 0 0),.raw (.slice none 0 0),.slice 1 0 k 1,.map 2,.int .i64 at',.raw (.pointer none)]),some (.ints (some .i64) xs),some (.imap .i64 none m)]=>some (.pre (k=xs.length∧k≤1000000) (.ret (.bool (ieq ((aW m xs).length :Int) 0)) [some (.cells [.int .i64 t,.int .i64 n,.slice 3 0 (cI m xs).length 1,.slice 4 0 (aW m xs).length 1,.slice 1 0 xs.length 1,.map 2,.int .i64 at',.ptr 5 0]),some (.ints (some .i64) xs),some (.imap .i64 none m),some (.ints (some .i64) (cI m xs)),some (.ints (some .i64) (aW m xs)),some (.cells [.int .i64 t,.int .i64 n,.slice 6 0 (aW m xs).length 1]),some (.ints (some .i64) (aW m xs))]))
 | _,_=>none
theorem uG(p:Int→Bool)(xs:List Int):(xs.filter p).length ≤xs.length:=List.length_filter_le p xs
theorem P5:aH.ok E35a.I Tryz.prog 275 partsS:=by
 intro args h o ho K hK;unfold partsS at ho;split at ho<;>cases ho
 rename_i t n k at' xs m;obtain⟨⟨rfl,hp⟩,hK⟩:=hK;refine aIl (aD (E:=E35a) Tryz.checked.mixed (L:=fun _ _=>some (.states (DS t n at' m xs))) (n:=10) (aK (q:=cN (DS t n at' m xs) (Hint.ok (DS t n at' m xs)) (.ptr 0 0::.O::.O::.O::.O::.O::.O::.O::.slice 1 0 xs.length 1::.int .i64 (↑xs.length:Int)::.int .i64 0::(tO' 48 [])) [some (.cells [.int .i64 t,.int .i64 n,.slice 3 0 0 1,.slice 4 0 0 1,.slice 1 0 xs.length 1,.map 2,.int .i64 at',.raw (Value.pointer none)]),some (.ints (some .i64) xs),some (.imap .i64 none m),some (.ints (some .i64) []),some (.ints (some .i64) [])]∧ ∀(x:(Nat×List Int×List Int)),aFL m xs x→bif ilt (↑x.1:Int) (↑xs.length:Int)then((0:Int)≤(↑x.1:Int)∧(↑x.1:Int)<(↑xs.length:Int))∧0+Int.toNat (↑x.1:Int)*(1:Nat)<xs.length∧bif !ieq (Option.getD (mget m (List.getD xs (0+Int.toNat (↑x.1:Int)*1) 0)) 0) 0 then(0=0∧lE' (Prod.snd x).1∧1=1∧List.length (Prod.snd x).1+(1:Nat)≤(4294967296:Nat))∧cN (DS t n at' m xs) (fun x'=>Hint.ok (DS t n at' m xs) x'∧Hint.mu (DS t n at' m xs) x'<Hint.mu (DS t n at' m xs) x) (.ptr 0 0::.O::.O::.O::.O::.O::.O::.O::.slice 1 0 xs.length 1::.int .i64 (↑xs.length:Int)::.int .i64 (W ((↑x.1:Int)+1))::(tO' 48 [])) [some (.cells [.int .i64 t,.int .i64 n,.slice 3 0 (List.length (Prod.snd x).1+1) 1,.slice 4 0 (List.length (Prod.snd x).2) 1,.slice 1 0 xs.length 1,.map 2,.int .i64 at',.raw (Value.pointer none)]),some (.ints (some .i64) xs),some (.imap .i64 none m),some (.ints (some .i64) ((Prod.snd x).1++ [List.getD xs (0+Int.toNat (↑x.1:Int)*1) 0])),some (.ints (some .i64) (Prod.snd x).2)]else(0=0∧lE' (Prod.snd x).2∧1=1∧List.length (Prod.snd x).2+(1:Nat)≤(4294967296:Nat))∧cN (DS t n at' m xs) (fun x'=>Hint.ok (DS t n at' m xs) x'∧Hint.mu (DS t n at' m xs) x'<Hint.mu (DS t n at' m xs) x) (.ptr 0 0::.O::.O::.O::.O::.O::.O::.O::.slice 1 0 xs.length 1::.int .i64 (↑xs.length:Int)::.int .i64 (W ((↑x.1:Int)+1))::(tO' 48 [])) [some (.cells [.int .i64 t,.int .i64 n,.slice 3 0 (List.length (Prod.snd x).1) 1,.slice 4 0 (List.length (Prod.snd x).2+1) 1,.slice 1 0 xs.length 1,.map 2,.int .i64 at',.raw (Value.pointer none)]),some (.ints (some .i64) xs),some (.imap .i64 none m),some (.ints (some .i64) (Prod.snd x).1),some (.ints (some .i64) ((Prod.snd x).2++ [List.getD xs (0+Int.toNat (↑x.1:Int)*1) 0]))]else((lE' (Prod.snd x).2∧List.length (Prod.snd x).2≤(1000000:Nat))∧True)∧K (.bool (ieq (↑(List.length (Prod.snd x).2):Int) 0)) [some (.cells [.int .i64 t,.int .i64 n,.slice 3 0 (List.length (Prod.snd x).1) 1,.slice 4 0 (List.length (Prod.snd x).2) 1,.slice 1 0 xs.length 1,.map 2,.int .i64 at',.ptr 5 0]),some (.ints (some .i64) xs),some (.imap .i64 none m),some (.ints (some .i64) (Prod.snd x).1),some (.ints (some .i64) (Prod.snd x).2),some (.cells [.int .i64 t,.int .i64 n,.slice 6 0 (List.length (Prod.snd x).2) 1]),some (.ints (some .i64) (Prod.snd x).2)]) (by kernel_rfl) ?_))
 refine⟨aN (H:=DS t n at' m xs) ((0:Nat),([]:List Int),([]:List Int)) rfl ⟨Nat.zero_le _,rfl,rfl⟩,?_⟩;rintro⟨i,ks,fs⟩ ⟨h1,h2,h3⟩;dsimp only at h1 h2 h3⊢;refine IK (fun hi=>?_) (fun hi=>?_)
 ·have hi':i<xs.length:=by omega
  have e2:0+(i:Int).toNat *1=i:=by omega
  have hg:xs.getD i 0=xs[i]:=by rw [gD',gE' hi'];rfl
  have e4:W ((i:Int)+1)=((i+1:Nat):Int):=by rw [yA (by omega)];rfl
  have hk:cI m (xs.take (i+1))=ks++(bif mhas m xs[i]then [xs[i]]else []):=by
   rw [h2];unfold cI;rw [List.take_succ_eq_append_getElem hi',List.filter_append];cases hm:mhas m xs[i]<;>simp [hm]
  have hf:aW m (xs.take (i+1))=fs++(bif mhas m xs[i]then []else [xs[i]]):=by
   rw [h3];unfold aW;rw [List.take_succ_eq_append_getElem hi',List.filter_append];cases hm:mhas m xs[i]<;>simp [hm]
  have hkl:ks.length≤xs.length:=by rw [h2];exact Nat.le_trans (uG _ _) (by simp;omega)
  have hfl:fs.length≤xs.length:=by rw [h3];exact Nat.le_trans (uG _ _) (by simp;omega)
  have hmu:xs.length - (i+1)<xs.length - i:=by omega
  rw [e2,e4,hg];have hd:(!ieq (Option.getD (mget m xs[i]) 0) 0)=mhas m xs[i]:=rfl;rw [hd];refine⟨by omega,by omega,aM (fun hm=>⟨⟨rfl,rfl,rfl,by omega⟩,?_⟩) (fun hm=>⟨⟨rfl,rfl,rfl,by omega⟩,?_⟩)⟩
  ·rw [hm]at hk hf;simp only [cond_true,List.append_nil]at hk hf;exact aN (H:=DS t n at' m xs) ((i+1:Nat),ks++ [xs[i]],fs) (by simp only [DS,List.length_append]<;>rfl) ⟨⟨hi',hk.symm,hf.symm⟩,hmu⟩
  ·rw [hm]at hk hf;simp only [cond_false,List.append_nil]at hk hf;exact aN (H:=DS t n at' m xs) ((i+1:Nat),ks,fs++ [xs[i]]) (by simp only [DS,List.length_append]<;>rfl) ⟨⟨hi',hk.symm,hf.symm⟩,hmu⟩
 ·rw [List.take_of_length_le (by omega)]at h2 h3
  subst h2 h3;have:=uG (fun n=>!mhas m n) xs;refine⟨⟨⟨rfl,?_⟩,trivial⟩,hK⟩;show(aW m xs).length ≤1000000;unfold aW;omega
noncomputable def E35:=E35a.addS 275 partsS P5
end Go.Sh
