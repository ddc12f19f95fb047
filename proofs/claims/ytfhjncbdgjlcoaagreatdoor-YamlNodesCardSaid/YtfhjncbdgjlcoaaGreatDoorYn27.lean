import Derived.Test.YtfhjncbdgjlcoaaGreatDoorYn26
import Derived.Test.YtfhjncbdgjlcoaaGreatDoorYn23
set_option linter.unusedVariables false
set_option linter.unusedSimpArgs false
set_option maxRecDepth 100000
set_option maxHeartbeats 4000000
namespace Go.Proofs.YtfhjncbdgjlcoaaGreatDoor
open Tryz
open Go.RowKit
open Go.Lib hiding intOf
theorem Oo (neg:Bool) (d:ByteArray) (e:Int) (w:World):
  Calls prog 126 #[.agg #[neg,d,e]] w (aT w (.bool (decide ((⟨neg,d.data.toList,e⟩:eJ)=cM)))):=by
 obtain⟨R,a⟩:=exQ<|decide ((⟨neg,d.data.toList,e⟩:eJ)=cM);rw[a];have b:=hid a;clear a;go_in;go_wp2_with fail
 all_goals go_ret
 all_goals refine⟨qH ?_,(aD _ _).alloc (aF _) _⟩
 all_goals rw[<-b.out]
 all_goals clear b
 all_goals try simp only[Lib.toList_data] at *
 all_goals first
  | (symm;apply aQ;simp_all [cM])
  | (symm;apply aJ;simp_all [cM])
theorem aBl {n:eJ}:kH n=(decide (n=cM)||decide (pM n)):=by
 unfold kH;by_cases h1:n=cM<;>by_cases h2:pM n<;>simp[h1,h2]
theorem aBm (neg:Bool) (d:ByteArray) (e:Int) (w:World) (hd:d.size<=4294967296):
  Calls prog 125 #[.agg #[neg,d,e]] w (aT w (.bool (kH ⟨neg,d.data.toList,e⟩))):=by
 have s:d.data.toList.length=d.size:=rfl;obtain⟨N,z⟩:=exQ<|decide ((⟨neg,d.data.toList,e⟩:eJ)=cM);have CN:=hid (show ∀w,Calls prog 126 #[.agg #[neg,d,e]] w (aT w (.bool N)) from λw=>z ▸ Oo neg d e w);have l:=aBl (n:=⟨neg,d.data.toList,e⟩);rw[z] at l;clear z;generalize kH ⟨neg,d.data.toList,e⟩=R at *;cases N with
 | true=>
  rw[Bool.true_or] at l;subst l;go_in;go_wp2_with fail;refine aH (CN.out _) λw1 b=>?_;go_wp2_with fail
  all_goals go_ret
  all_goals exact⟨rfl,((aD _ _).alloc (aF _) _).trans (b.mono e_)⟩
 | false=>
  rw[Bool.false_or] at l;cases hD:dC d.data.toList with
  | false=>
   have SH:=trivial;exact P7
  | true=>
   have g:0<d.size:=by
    have:=(oT hD).1;exact lr
   have r:=hid (λw=>yS d w true hd hD);have a:d.size-1<d.size:=a_;have e1:=xK d g;have e2:=Ed d a;have b1:=Ak (d[0]'g);have b2:=Ak (d[d.size-1]'a);have RP:pM ⟨neg,d.data.toList,e⟩↔d.size<=1000/\ ¬(d[0]'g)=48/\ ¬(d[d.size-1]'a)=48/\ -1000000<=e/\e<=1000000:=by
    unfold pM;simp only[hD,s,e1,e2,true_and,ne_eq,cC]
   have n1:(((d[0]'g).toNat:Int) !=48)=!(((d[0]'g).toNat:Int)==48):=rfl;have n2:(((d[d.size-1]'a).toNat:Int) !=48)=!(((d[d.size-1]'a).toNat:Int)==48):=rfl;have t:R=(decide (d.size<=1000)&&(!decide ((d[0]'g)=48)&&(!decide ((d[d.size-1]'a)=48)&&(decide (-1000000<=e)&&decide (e<=1000000))))):=by
    rw[l];refine Bool.eq_iff_iff.2 ?_;simp only[fQ,kB,Bool.not_eq_true',decide_eq_false_iff_not];exact RP
   clear hD e1 e2 RP l;rw[b1] at n1;rw[b2] at n2;generalize decide ((d[0]'g)=48)=X1 at *;generalize decide ((d[d.size-1]'a)=48)=X2 at *;have v:=hid t;clear t;have E:1000<d.size\/(d.size<=1000/\X1=true)\/(d.size<=1000/\X1=false/\X2=true)\/(d.size<=1000/\X1=false/\X2=false):=by
    rcases Nat.lt_or_ge 1000 d.size with h | h
    .exact .inl h
    .cases X1<;>cases X2<;>simp[h]
   rcases E with c1 | ⟨c1,rfl⟩ | ⟨c1,rfl,rfl⟩ | ⟨c1,rfl,rfl⟩
   all_goals exact P7
theorem vI (m:Nat) (h:m<10):(⟨#[48,49,50,51,52,53,54,55,56,57]⟩:ByteArray).extract m (m+1)=bs [UInt8.ofNat (48+m)]:=by
 rw[gO];have: ∀m:Fin 10,(List.take (m.val+1-m.val) (List.drop m.val (ByteArray.mk #[48,49,50,51,52,53,54,55,56,57]).data.toList))= [UInt8.ofNat (48+m.val)]:=b_
 rw[this ⟨m,h⟩]
theorem Op (u:Nat) (h:u<10):Lib.decDigits u= [UInt8.ofNat (48+u)]:=by rw[Lib.decDigits,dif_pos h]
theorem Oq (u:Nat) (h:10<=u):Lib.decDigits u=Lib.decDigits (u / 10)++ [UInt8.ofNat (48+u % 10)]:=by rw[Lib.decDigits,dif_neg a_]
theorem aBn (u:Nat): ∀(w:World),u<=9223372036854775807->
  Calls prog 127 #[u] w (aT w (.string (bs (Lib.decDigits u)))):=by
 have MD:=trivial;exact ID
theorem aBo (u:Nat): ∀(w:World),1<=u->u<=9223372036854775808->
  Calls prog 127 #[.int .i64 (-(u:Int))] w (aT w (.string (bs (45::Lib.decDigits u)))):=by
 have MF:=trivial;exact ID
theorem aBp (n:Int) (w:World) (h: -9223372036854775808<=n/\n<=9223372036854775807):
  Calls prog 127 #[n] w (aT w (.string (bs (Lib.itoa n)))):=by
 unfold Lib.itoa;by_cases hn:n<0
 .rw[if_pos hn];have:=aBo n.natAbs w a_ a_;rw[show -(n.natAbs:Int)=n by omega] at this;exact this
 .rw[if_neg hn];have:=aBn n.toNat w a_;rw[show (n.toNat:Int)=n by omega] at this;exact this
def qX (w:World) (b:Nat) (n:eJ):Prop:=w.heap[b]?=some (.cells #[n.neg,bs n.dig,n.exp] 80 (0,0))
theorem qX.keep {w w':World}{b:Nat}{n:eJ} (h:qX w b n) (hb:aA w w'):qX w' b n:=(hb.block b (aG h)).trans h
theorem qX.cells {w:World}{b:Nat}{n:eJ} (h:qX w b n):w.cell? (b,0)=some (.bool n.neg)/\w.cell? (b,1)=some (.string (bs n.dig))/\w.cell? (b,2)=some (.int .i64 n.exp):=
 ⟨pQ h 0,pQ h 1,pQ h 2⟩
theorem qX.new (w:World) (n:eJ):qX (w.alloc (.cells #[n.neg,bs n.dig,n.exp] 80)) w.heap.size n:=heap_alloc_new w _
abbrev vJ (B:Nat) (n:eJ) (w0 w':World):Prop:=
 (w'.cell? (B,0)=some (.bool n.neg)/\w'.cell? (B,1)=some (.string (bs n.dig))/\w'.cell? (B,2)=some (.int .i64 n.exp))/\Hid (qX w' B n/\Below B w0 w')
theorem vJ.of {B:Nat}{n:eJ}{w0 w1:World} (h:qX w1 B n) (hb:Below B w0 w1):vJ B n w0 w1:=⟨h.cells,h,hb⟩
theorem vJ.step {B:Nat}{n:eJ}{w0 w1 w2:World} (h:vJ B n w0 w1) (hb:aA w1 w2):vJ B n w0 w2:=
 vJ.of (h.2.out.1.keep hb) (h.2.out.2.trans (hb.mono (Nat.le_of_lt (aG h.2.out.1))))
theorem aBq (n:eJ) (w:World) (hd:n.dig.length<=4294967296) (R:Bool) (h:kH n=R):
  Calls prog 125 #[.agg #[n.neg,bs n.dig,n.exp]] w (aT w (.bool R)):=by
 have:=aBm n.neg (bs n.dig) n.exp w M';rw[aY,h] at this;exact this
theorem aBr (n:eJ) (w:World) (R:Bool) (h:decide (n=cM)=R):
  Calls prog 126 #[.agg #[n.neg,bs n.dig,n.exp]] w (aT w (.bool R)):=by
 have:=Oo n.neg (bs n.dig) n.exp w;rw[aY,h] at this;exact this
theorem Ot (n:eJ) (w:World) (hd:n.dig.length<=4294967296):
  Calls prog 89 #[.agg #[n.neg,bs n.dig,n.exp]] w (aT w (.string (bs (kS n)))):=by
 have SJ:=trivial;exact P8
theorem Gm (s:aB) (w:World):
  Calls prog 32 #[bs s] w (aT w (.agg #[(4:Int),bs s,(),()])):=by
 have SC:=trivial;exact PZ
theorem aBs (s:aB) (w:World) (hs:s.length<=1073741824) (hV:mU w):
  Calls prog 56 #[bs s] w λe w'=>e=tQ s/\aA w w':=PJ
theorem Ou {l:List VT}{i:Nat}{x:VT} (hx:l[i]?=some x):l.take (i+1)=l.take i++ [x]:=by
 obtain⟨a,b⟩:=aW.1 hx;rw[List.take_succ_eq_append_getElem a,b]
def Gn (n:Nat):Prop:= ∀(t:VT) (kv iv:Value) (w:World),VD w n t kv iv->t.bulk<=1099511627776->
  Calls prog 69 #[vv t kv iv] w λe w'=>e= .returned (.int .i64 (t.size:Int))/\Below w.heap.size w w'
theorem aBt (n:Nat) (IH:Gn n):Gn (n+1):=by
 have RR:=trivial;exact PT
theorem Ov: ∀n,Gn n
 | 0=>λ_ _ _ _ h=>h.elim
 | n+1=>aBt n (Ov n)
def Gp (n:Nat):Prop:= ∀(t:VT) (kv iv:Value) (w:World),VD w n t kv iv->t.bulk<=1099511627776->
  Calls prog 68 #[vv t kv iv] w λe w'=>e= .returned (.int .i64 (t.depth:Int))/\Below w.heap.size w w'
theorem aBu (n:Nat) (IH:Gp n):Gp (n+1):=by
 have RT:=trivial;exact PT
theorem Ow: ∀n,Gp n
 | 0=>λ_ _ _ _ h=>h.elim
 | n+1=>aBu n (Ow n)
end Go.Proofs.YtfhjncbdgjlcoaaGreatDoor
