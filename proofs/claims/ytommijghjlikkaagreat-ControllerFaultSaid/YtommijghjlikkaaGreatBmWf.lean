/- The abstract machine, second form: an operation's primitive names only what is there. -/
import Derived.Test.YtommijghjlikkaaGreatBmBind
set_option linter.unusedVariables false
set_option linter.unusedSimpArgs false
namespace Go.Bm
open Go.RowKit
section
variable {P:Program} {C:Cfg} {R:Type} {boxes:List (Nat×Box)} {rows:List (Nat×Row)}
theorem K9 {α:Type} {c:Bool} {p q:α} (h:cond c (some p) none=some q):c=true/\p=q:=by cases c<;>simp at h;exact⟨rfl,h⟩
theorem Q8 (k:IntKind) (n:Int):TV.wf boxes rows (.c (.int k n)):=by intro a ha;simp at ha;subst ha;trivial
theorem IB (b:Bool):TV.wf boxes rows (.c (.bool b)):=by intro a ha;simp at ha;subst ha;trivial
theorem Cw {a:AC} (h:AC.wf boxes rows a):TV.wf boxes rows (.c a):=by intro b hb;simp at hb;subst hb;exact h
theorem EU {a:AC} (h:TV.wf boxes rows (.c a)):AC.wf boxes rows a:=h a (by simp)
theorem Qwh (v:Value):AC.wf boxes rows (NR v):=by
 unfold NR;split<;>trivial
theorem Qg1:∀(l:List Value) (cs:List AC),Iv l=some cs->∀a∈cs,AC.wf boxes rows a
 |[],cs,h=>by simp[Iv]at h;subst h;intro a ha;simp at ha
 |v::l,cs,h=>by
  simp only[Iv]at h;cases hv:v.oneCell'<;>rw[hv]at h
  ·simp at h
  ·simp only[cond_true]at h;split at h
   ·rename_i cs' hc;simp at h;subst h;intro a ha;simp only[List.mem_cons]at ha;rcases ha with rfl|ha
    ·exact Qwh v
    ·exact Qg1 l cs' hc a ha
   ·simp at h
theorem Zd1 (v:Value):TV.wf boxes rows (ofValue v):=by
 unfold ofValue;split
 ·split
  ·rename_i h;exact Qg1 _ _ h
  ·trivial
 ·trivial
 ·exact Cw (Qwh v)
theorem Qdo {tm:List TV} (h:∀v∈tm,TV.wf boxes rows v) (x:Operand):TV.wf boxes rows (AS tm x):=by
 cases x with
 |tmp t=>
  simp only[AS,BK,List.getD];cases ht:tm[t]? with
  |none=>trivial
  |some v=>exact h v (List.mem_of_getElem? ht)
 |const v=>exact Zd1 v
 |global=>trivial
 |func=>trivial
theorem Q3 {t:TypeId} {cs:List AC} (h:I6 P t=some cs):∀a∈cs,AC.wf boxes rows a:=by
 unfold I6 at h;split at h
 ·split at h
  ·exact Qg1 _ _ h
  ·simp at h
 ·simp at h
theorem Q6b {z:List AC} (hz:∀a∈z,AC.wf boxes rows a):∀n,∀a∈Ln z n,AC.wf boxes rows a
 |0,a,h=>by simp[Ln]at h
 |n+1,a,h=>by
  simp only[Ln,List.mem_append]at h;rcases h with h|h
  ·exact hz a h
  ·exact Q6b hz n a h
theorem TV.cells_wf {v:TV} {cs:List AC} (h:v.cells=some cs) (hw:TV.wf boxes rows v):∀a∈cs,AC.wf boxes rows a:=by
 cases v<;>simp[TV.cells]at h
 subst h;exact hw
theorem Sr {α:Type} {x:α}:∀(l:List α) (o:Nat) (vs:List α),x∈splice l o vs->x∈l\/x∈vs
 |l,o,[],h=>by rw[Qd]at h;exact .inl h
 |[],o,_::_,h=>by simp[splice]at h
 |y::l,0,v::vs,h=>by
  simp only[splice,List.mem_cons]at h;rcases h with rfl|h
  ·exact .inr (by simp)
  ·rcases Sr l 0 vs h with h|h
   ·exact .inl (by simp[h])
   ·exact .inr (by simp[h])
 |y::l,o+1,v::vs,h=>by
  simp only[splice,List.mem_cons]at h;rcases h with rfl|h
  ·exact .inl (by simp)
  ·rcases Sr l o (v::vs) h with h|h
   ·exact .inl (by simp[h])
   ·exact .inr h
theorem Rz {place:Nat->Option (Nat×Nat)}:∀(parts:List (Nat×TV)) (z cs:List AC),Ic place z parts=some cs->(∀a∈z,AC.wf boxes rows a)->(∀p∈parts,TV.wf boxes rows p.2)->∀a∈cs,AC.wf boxes rows a
 |[],z,cs,h,hz,_=>by simp[Ic]at h;subst h;exact hz
 |(i,v)::parts,z,cs,h,hz,hp=>by
  simp only[Ic]at h;split at h
  ·rename_i off size l hpl hl;cases hb:(Nat.beq l.length size&&Nat.ble (off+size) z.length)<;>rw[hb]at h
   ·simp at h
   ·refine Rz parts _ _ h (fun a ha=> ?_) (fun p hpm=>hp p (by simp[hpm]));rcases Sr _ _ _ ha with ha|ha
    ·exact hz a ha
    ·exact TV.cells_wf hl (hp (i,v) (by simp)) a ha
  ·simp at h
theorem Sg {ev:Operand->TV} (hev:∀x,TV.wf boxes rows (ev x)):∀(l:List (Nat×Operand)),∀p∈FZ ev l,TV.wf boxes rows p.2
 |[],p,h=>by simp[FZ]at h
 |x::l,p,h=>by
  simp only[FZ,List.mem_cons]at h;rcases h with rfl|h
  ·exact hev _
  ·exact Sg hev l p h
theorem Of {ev:Operand->TV} (hev:∀x,TV.wf boxes rows (ev x)):∀(l:List Operand),∀v∈Ct ev l,TV.wf boxes rows v
 |[],p,h=>by simp[Ct]at h
 |x::l,p,h=>by
  simp only[Ct,List.mem_cons]at h;rcases h with rfl|h
  ·exact hev _
  ·exact Of hev l p h
theorem PF {g:Bool} {sz off:Nat} {cells:List AC} {v:TV} (h:Dl g sz cells off=some v) (hc:∀a∈cells,AC.wf boxes rows a):TV.wf boxes rows v:=by
 unfold Dl at h;cases g
 ·simp only[cond_false]at h;split at h
  ·rename_i c hc';simp at h;subst h;exact Cw (hc _ (List.mem_of_getElem? hc'))
  ·simp at h
 ·simp only[cond_true]at h;cases hbb:Nat.ble (off+sz) cells.length<;>rw[hbb]at h
  ·simp at h
  ·simp at h;subst h;intro c hcm;exact hc c (List.mem_of_mem_drop (List.mem_of_mem_take hcm))
theorem Qr5 {t:TypeId} {cs:List AC} {off:Nat} {v:TV} (h:NS P t cs off=some v) (hc:∀a∈cs,AC.wf boxes rows a):TV.wf boxes rows v:=by
 unfold NS at h;split at h
 ·exact PF h hc
 ·simp at h
theorem Zc6 {op:BinOp} {k:IntKind} {a b:Int} {c:AC} (h:G2 op k a b some=some c):AC.wf boxes rows c:=by
 cases op<;>simp only[G2]at h
 case quo=>cases hb:decide (b=0)<;>rw[hb]at h<;>simp at h;subst h;trivial
 case rem=>cases hb:decide (b=0)<;>rw[hb]at h<;>simp at h;subst h;trivial
 case shl=>cases hb:decide (b<0)<;>rw[hb]at h<;>simp at h;subst h;trivial
 case shr=>cases hb:decide (b<0)<;>rw[hb]at h<;>simp at h;subst h;trivial
 all_goals (simp at h;subst h;trivial)
theorem Qjv (g:Int->Int->Int) (k:IntKind):∀(l:List TV) (a:Int) (p:Prim),Fqs g k a l some=some p->Prim.wf boxes rows p
 |[],a,p,h=>by simp[Fqs]at h;subst h;exact Q8 _ _
 |t::l,a,p,h=>by
  unfold Fqs at h;split at h
  ·rename_i k' b;cases hk:kEq k k'<;>rw[hk]at h
   ·simp at h
   ·exact Qjv g k l _ p h
  ·simp at h
theorem Zah (k:Kd) (a:AC):(LB k a).calm=true:=by
 cases k<;>try rfl
 cases a<;>rfl
theorem Qr8:∀(ks:List Kd) (cs:List AC) (j:Nat),Aj AC.calm (EO ks cs j)=true
 |[],_,_=>rfl
 |k::ks,cs,j=>by simp only[EO,Aj,Zah,cond_true];exact Qr8 ks cs (j+1)
theorem Q0k {cs:List AC} (h:Aj AC.calm cs=true):∀a∈cs,AC.wf boxes rows a:=by
 intro a ha;have:=Av.1 h a ha;cases a<;>first|trivial|(simp[AC.calm]at this)
theorem Qh3:∀{l:List TV} {as:List AC},Iu l=some as->(∀v∈l,TV.wf boxes rows v)->∀a∈as,AC.wfP boxes a
 |[],as,h,_=>by simp[Iu]at h;subst h;intro a ha;simp at ha
 |v::l,as,h,hw=>by
  unfold Iu at h;split at h
  ·simp at*
  ·rename_i a l' heq;simp only[List.cons.injEq]at heq;obtain⟨rfl,rfl⟩:=heq;cases hc:a.clOk<;>rw[hc]at h
   ·simp at h
   ·simp only[cond_true]at h;split at h
    ·rename_i r hr;simp at h;subst h;intro b hb;simp only[List.mem_cons]at hb;rcases hb with rfl|hb
     ·have:=hw (.c b) (by simp) b (by simp);cases b<;>first|exact this|trivial
     ·exact Qh3 hr (fun v hv=>hw v (by simp[hv])) b hb
    ·simp at h
  ·simp at h
theorem Qgk {ev:Operand->TV} (hev:∀x,TV.wf boxes rows (ev x)) {dst:Option Tmp} {o:Op} {p:Prim} (h:opK P C ev dst o some=some p):Prim.wf boxes rows p:=by
 cases o<;>simp only[opK]at h<;>try (simp at h;done)
 case move x=>simp at h;subst h;exact hev x
 case assign x=>simp at h;subst h;exact hev x
 case pick c a b=>
  split at h
  ·rename_i g _;cases g<;>simp at h<;>subst h
   ·exact hev b
   ·exact hev a
  ·simp at h
 case alloc t=>
  split at h
  ·rename_i cs hz;simp at h;subst h;exact Q3 hz
  ·simp at h
 case box t x=>
  split at h
  ·rename_i cs hc;simp at h;subst h;exact TV.cells_wf hc (hev x)
  ·simp at h
 case build t parts=>
  split at h
  ·rename_i z fs hz hu;cases hall:(Aj (LR P) fs.toList)<;>rw[hall]at h
   ·simp at h
   ·simp only[cond_true]at h;split at h
    ·rename_i cs hb;simp at h;subst h;exact Rz _ _ _ hb (Q3 hz) (Sg hev _)
    ·simp at h
  ·rename_i z n el hz hu;split at h
   ·split at h
    ·rename_i cs hb;simp at h;subst h;exact Rz _ _ _ hb (Q3 hz) (Sg hev _)
    ·simp at h
   ·simp at h
  ·simp at h
 case buildSlice t n parts=>
  split at h
  ·split at h
   ·cases hb:(Nat.beq _ _&&Nat.beq _ _&&Nat.ble 1 _&&Nat.ble _ 65536)<;>rw[hb]at h
    ·simp at h
    ·simp only[cond_true]at h;split at h
     ·rename_i hz _ _ cs hbp;split at h
      ·cases hcv:RU C dst n<;>rw[hcv]at h<;>simp at h<;>subst h<;>trivial
      ·cases hcl:(Aj AC.isClo cs&&Nat.beq _ 1)<;>rw[hcl]at h
       ·simp at h
       ·simp only[cond_true]at h;simp at h;subst h;refine Rz _ _ _ hbp (fun a ha=> ?_) (Sg hev _);exact Q6b (Q3 hz) _ a ha
     ·simp at h
   ·simp at h
  ·simp at h
 case makeSlice t len cap=>
  split at h
  ·split at h
   ·split at h
    ·cases hb:(Nat.beq _ _&&Nat.ble 1 _&&Nat.ble 1 _)<;>rw[hb]at h
     ·simp at h
     ·simp only[cond_true]at h;obtain⟨_,rfl⟩:=K9 h;trivial
    ·simp at h
   ·simp at h
  ·simp at h
 case makeFunc fn a b=>
  split at h
  ·split at h
   ·rename_i fs cs hfs hcs;simp at h;subst h;exact Cw ⟨Qh3 hfs (Of hev _),Qh3 hcs (Of hev _)⟩
   ·simp at h
  ·simp at h
 case load t a=>
  split at h
  ·have ha:=hev a;split at h
   ·rename_i key off hea;simp at h;subst h;rw[hea]at ha;exact EU ha
   ·rename_i cells sub hea;split at h
    ·rename_i v hv;simp at h;subst h;rw[hea]at ha;exact PF hv (Q0k (EU ha))
    ·simp at h
   ·rename_i id idx sub hea;simp at h;subst h;rw[hea]at ha;exact EU ha
   ·simp at h
  ·simp at h
 case store t a x=>
  split at h
  ·rename_i sz cs hs hc;cases hb:(Nat.beq cs.length sz)<;>rw[hb]at h
   ·simp at h
   ·simp only[cond_true]at h;have ha:=hev a;split at h
    ·rename_i key off hea;simp at h;subst h;rw[hea]at ha;exact⟨EU ha,TV.cells_wf hc (hev x)⟩
    ·rename_i id idx sub hea;simp at h;subst h;rw[hea]at ha;exact EU ha
    ·simp at h
  ·simp at h
 case nilCheck x=>
  have hx:=hev x;split at h
  all_goals first|(simp at h;done)|(rename_i hea;simp at h;subst h;rw[hea]at hx;exact hx)
 case binOp op t x y yt=>
  split at h
  ·cases hk:(kEq _ _||Np op)<;>rw[hk]at h
   ·simp at h
   ·simp only[cond_true]at h;rename_i k a k' b _ _;rw[Y2]at h;cases hi:G2 op k a b some with
    |none=>rw[hi]at h;simp at h
    |some c=>rw[hi]at h;simp at h;subst h;exact Cw (Zc6 hi)
  ·split at h
   ·simp at h;subst h;exact IB _
   ·simp at h;subst h;exact IB _
   ·simp at h
  ·split at h
   ·simp at h;subst h;exact IB _
   ·simp at h;subst h;exact IB _
   ·simp at h
  ·cases hg:P.eqGuardType P.depth t<;>rw[hg]at h
   ·simp only[cond_false]at h;split at h
    ·simp at h;subst h;exact IB _
    ·simp at h;subst h;exact IB _
    ·simp at h
   ·simp at h
  ·simp at h
 case unOp uop t x=>
  split at h
  ·simp at h;subst h;exact Q8 _ _
  ·simp at h;subst h;exact IB _
  ·simp at h
 case convert src dst x=>
  split at h
  ·simp at h;subst h;exact Q8 _ _
  ·simp at h
 case fieldAddr t x i=>
  split at h
  ·split at h
   ·have hx:=hev x;split at h
    ·rename_i hea;simp at h;subst h;rw[hea]at hx;have q:=EU hx;exact Cw q
    ·rename_i hea;simp at h;subst h;rw[hea]at hx;have q:=EU hx;exact Cw q
    ·rename_i hea;simp at h;subst h;rw[hea]at hx;have q:=EU hx;exact Cw q
    ·simp at h
   ·simp at h
  ·simp at h
 case field t x i=>
  split at h
  ·rename_i f cs hf hea;split at h
   ·rename_i v hp;simp at h;subst h;have hx:=hev x;rw[hea]at hx;exact Qr5 hp hx
   ·simp at h
  ·simp at h
 case indexAddr t x ix=>
  split at h
  ·have hx:=hev x;split at h
   ·rename_i hea;obtain⟨j,h1,_⟩:=Hj h;simp at h1;subst h1;rw[hea]at hx;have q:=EU hx;exact Cw q
   ·rename_i hea;obtain⟨j,h1,_⟩:=Hj h;simp at h1;subst h1;rw[hea]at hx;have q:=EU hx;exact Cw q
   ·rename_i hea;obtain⟨j,h1,_⟩:=Hj h;simp at h1;subst h1;rw[hea]at hx;have q:=EU hx;exact Cw q
   ·simp at h
  ·have hx:=hev x;split at h
   ·rename_i m ks l hm hea;cases hb:Nat.beq m ks.length<;>rw[hb]at h
    ·simp at h
    ·simp only[cond_true]at h;obtain⟨_,rfl⟩:=K9 h;exact Cw (Qr8 _ _ _)
   ·rename_i m id wd n hm hea;cases hb:Nat.beq m wd<;>rw[hb]at h
    ·simp at h
    ·simp only[cond_true]at h;obtain⟨hd,rfl⟩:=K9 h;rw[hea]at hx;obtain⟨r,h1,h2,h3⟩:=EU hx;simp at hd;exact Cw ⟨r,h1,by omega⟩
   ·rename_i m key n hm hea;cases hb:Nat.beq m 1<;>rw[hb]at h
    ·simp at h
    ·simp only[cond_true]at h;obtain⟨j,h1,_⟩:=Hj h;simp at h1;subst h1;rw[hea]at hx;have q:=EU hx;exact Cw q
   ·simp at h
  ·simp at h
 case index t x ix=>
  split at h
  ·rename_i i n el cs hi hu hea;split at h
   ·obtain⟨j,h1,_⟩:=Hj h;have hx:=hev x;rw[hea]at hx;split at h1
    ·rename_i v hp;simp at h1;subst h1;exact Qr5 hp hx
    ·simp at h1
   ·simp at h
  ·simp at h
 case slice t x lo hi mx=>
  split at h
  ·split at h
   ·rename_i m ks l hm hea;cases hb:Nat.beq m ks.length<;>rw[hb]at h
    ·simp at h
    ·simp only[cond_true]at h;split at h
     ·simp at h;subst h;exact Cw trivial
     all_goals
      obtain⟨_,rfl⟩:=K9 h;exact Cw trivial
   ·split at h
    ·cases hb:Nat.beq _ _<;>rw[hb]at h
     ·simp at h
     ·simp only[cond_true]at h;obtain⟨_,rfl⟩:=K9 h;trivial
    ·simp at h
   ·split at h
    ·simp at h;subst h;exact Cw trivial
    all_goals
     obtain⟨_,rfl⟩:=K9 h;exact Cw trivial
   ·simp at h
  ·simp at h
 case extract t i=>
  have ht:=hev t;split at h
  ·rename_i ps hea;split at h
   ·rename_i g cs hg;simp at h;subst h;rw[hea]at ht;exact ht (g,cs) (List.mem_of_getElem? hg)
   ·simp at h
  ·simp at h
 case call c=>
  split at h
  ·rename_i b hb;have hargs:=Of hev c.args.toList
   revert hargs h
   generalize Ct ev c.args.toList=args;intro h hargs;unfold LL at h;split at h
   case h_6=>exact Qjv _ _ _ _ _ h
   case h_7=>exact Qjv _ _ _ _ _ h
   case h_8=>
    rename_i s x
    repeat' split at h
    all_goals try (simp at h;done)
    obtain⟨_,rfl⟩:=K9 h;exact⟨EU (hargs _ (by simp)),EU (hargs _ (by simp))⟩
   all_goals
    repeat' split at h
    all_goals first|(simp at h;done)|(simp at h;subst h;exact Q8 _ _)
  ·rename_i f hf;cases hp:C.pure f<;>rw[hp]at h<;>simp at h<;>subst h<;>exact Of hev _
  ·rename_i t ht;split at h
   ·rename_i f fs cs hcl;cases hok:(Aj AC.clOk fs&&Aj AC.clOk cs)<;>rw[hok]at h
    ·simp at h
    simp only[cond_true,Option.some.injEq]at h;subst h;simp only[Bool.and_eq_true]at hok;have hv:=hev (.tmp t);rw[hcl]at hv;have hq:=EU hv;have hcw:∀l:List AC,(∀a∈l,AC.wfP boxes a)->Aj AC.clOk l=true->∀v∈l.map TV.c,TV.wf boxes rows v:=by
     intro l h1 h2 v hv;simp only[List.mem_map]at hv;obtain⟨a,ha,rfl⟩:=hv;have q1:=h1 a ha;have q2:=Av.1 h2 a ha;cases a<;>first|exact Cw q1|(simp[AC.clOk]at q2;done)|exact Cw trivial
    intro v hv;rcases List.mem_append.1 hv with hv|hv
    ·exact hcw fs hq.1 hok.1 v hv
    ·rcases List.mem_append.1 hv with hv|hv
     ·exact Of hev _ v hv
     ·exact hcw cs hq.2 hok.2 v hv
   ·simp at h
  ·simp at h
end
end Go.Bm
