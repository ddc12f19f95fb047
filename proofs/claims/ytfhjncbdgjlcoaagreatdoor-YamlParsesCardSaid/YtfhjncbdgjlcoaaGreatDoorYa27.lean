import Derived.Test.YtfhjncbdgjlcoaaGreatDoorYa26
import Derived.Test.YtfhjncbdgjlcoaaGreatDoorYa23
set_option maxRecDepth 100000
set_option maxHeartbeats 4000000
set_option linter.unusedVariables false
set_option linter.unusedSimpArgs false
namespace Go.Proofs.YtfhjncbdgjlcoaaGreatDoor
open Go.RowKit
open Go.Lib hiding intOf
theorem Np (neg:Bool) (d:ByteArray) (e:Int) (w:World):
  Calls Tryz.prog 126 #[.agg #[neg,d,e]] w λen w'=>en= .returned (.bool (decide ((⟨neg,d.data.toList,e⟩:dU)=cF)))/\Below w.heap.size w w':=by
 obtain⟨R,a⟩:=exQ<|decide ((⟨neg,d.data.toList,e⟩:dU)=cF);rw[a];have b:=hid a;clear a;go_enter Tryz.func126,Tryz.ntmps126;go_wp2_with fail
 all_goals go_ret
 all_goals refine⟨pL ?_,(aB _ _).alloc (aD _) _⟩
 all_goals rw[<-b.out]
 all_goals clear b
 all_goals try simp only[Lib.toList_data] at *
 all_goals first
  | (symm;apply aO;simp_all [cF])
  | (symm;apply aG;simp_all [cF])
theorem aAs {n:dU}:jO n=(decide (n=cF)||decide (oO n)):=by
 unfold jO;by_cases h1:n=cF<;>by_cases h2:oO n<;>simp[h1,h2]
theorem aAt (neg:Bool) (d:ByteArray) (e:Int) (w:World) (hd:d.size<=4294967296):
  Calls Tryz.prog 125 #[.agg #[neg,d,e]] w λen w'=>en= .returned (.bool (jO ⟨neg,d.data.toList,e⟩))/\Below w.heap.size w w':=by
 have s:d.data.toList.length=d.size:=rfl;obtain⟨N,y⟩:=exQ<|decide ((⟨neg,d.data.toList,e⟩:dU)=cF);have CN:=hid (show ∀w,Calls Tryz.prog 126 #[.agg #[neg,d,e]] w λen w'=>en= .returned (.bool N)/\Below w.heap.size w w' from λw=>y ▸ Np neg d e w);have l:=aAs (n:=⟨neg,d.data.toList,e⟩);rw[y] at l;clear y;generalize jO ⟨neg,d.data.toList,e⟩=R at *;cases N with
 | true=>
  rw[Bool.true_or] at l;subst l;go_enter Tryz.func125,Tryz.ntmps125;go_wp2_with fail;refine(CN.out _).mono ?_;rintro en w1 ⟨rfl,b⟩;go_wp2_with fail;exact pd
 | false=>
  rw[Bool.false_or] at l;cases hD:cV d.data.toList with
  | false=>
   have AM:=trivial;exact sx
  | true=>
   have g:0<d.size:=by
    have:=(nR hD).1;exact ky
   have r:=hid (λw=>yC d w true hd hD);have a:d.size-1<d.size:=a_;have e1:=wV d g;have e2:=Dg d a;have b1:=zQ (d[0]'g);have b2:=zQ (d[d.size-1]'a);have RP:oO ⟨neg,d.data.toList,e⟩↔d.size<=1000/\ ¬(d[0]'g)=48/\ ¬(d[d.size-1]'a)=48/\ -1000000<=e/\e<=1000000:=by
    unfold oO;simp only[hD,s,e1,e2,true_and,ne_eq,cG]
   have n1:(((d[0]'g).toNat:Int) !=48)=!(((d[0]'g).toNat:Int)==48):=rfl;have n2:(((d[d.size-1]'a).toNat:Int) !=48)=!(((d[d.size-1]'a).toNat:Int)==48):=rfl;have t:R=(decide (d.size<=1000)&&(!decide ((d[0]'g)=48)&&(!decide ((d[d.size-1]'a)=48)&&(decide (-1000000<=e)&&decide (e<=1000000))))):=by
    rw[l];refine Bool.eq_iff_iff.2 ?_;simp only[fK,jS,Bool.not_eq_true',decide_eq_false_iff_not];exact RP
   clear hD e1 e2 RP l;rw[b1] at n1;rw[b2] at n2;generalize decide ((d[0]'g)=48)=X1 at *;generalize decide ((d[d.size-1]'a)=48)=X2 at *;have z:=hid t;clear t;have E:1000<d.size\/(d.size<=1000/\X1=true)\/(d.size<=1000/\X1=false/\X2=true)\/(d.size<=1000/\X1=false/\X2=false):=by
    rcases Nat.lt_or_ge 1000 d.size with h | h
    ·exact .inl h
    ·cases X1<;>cases X2<;>simp[h]
   rcases E with c1 | ⟨c1,rfl⟩ | ⟨c1,rfl,rfl⟩ | ⟨c1,rfl,rfl⟩
   all_goals exact sx
theorem uS (m:Nat) (h:m<10):(⟨#[48,49,50,51,52,53,54,55,56,57]⟩:ByteArray).extract m (m+1)=bs [UInt8.ofNat (48+m)]:=by
 rw[gL];have: ∀m:Fin 10,(List.take (m.val+1-m.val) (List.drop m.val (ByteArray.mk #[48,49,50,51,52,53,54,55,56,57]).data.toList))= [UInt8.ofNat (48+m.val)]:=b_
 rw[this ⟨m,h⟩]
theorem Nq (u:Nat) (h:u<10):Lib.decDigits u= [UInt8.ofNat (48+u)]:=by rw[Lib.decDigits,dif_pos h]
theorem Nr (u:Nat) (h:10<=u):Lib.decDigits u=Lib.decDigits (u / 10)++ [UInt8.ofNat (48+u % 10)]:=by rw[Lib.decDigits,dif_neg a_]
theorem aAu (u:Nat): ∀(w:World),u<=9223372036854775807->
  Calls Tryz.prog 127 #[u] w λe w'=>e= .returned (.string (bs (Lib.decDigits u)))/\Below w.heap.size w w':=by
 have zj:=trivial;exact rj
theorem aAv (u:Nat): ∀(w:World),1<=u->u<=9223372036854775808->
  Calls Tryz.prog 127 #[.int .i64 (-(u:Int))] w λe w'=>e= .returned (.string (bs (45::Lib.decDigits u)))/\Below w.heap.size w w':=by
 have zk:=trivial;exact rj
theorem aAw (n:Int) (w:World) (h: -9223372036854775808<=n/\n<=9223372036854775807):
  Calls Tryz.prog 127 #[n] w λe w'=>e= .returned (.string (bs (Lib.itoa n)))/\Below w.heap.size w w':=by
 unfold Lib.itoa;by_cases hn:n<0
 ·rw[if_pos hn];have:=aAv n.natAbs w a_ a_;rw[show -(n.natAbs:Int)=n by omega] at this;exact this
 ·rw[if_neg hn];have:=aAu n.toNat w a_;rw[show (n.toNat:Int)=n by omega] at this;exact this
def pZ (w:World) (b:Nat) (n:dU):Prop:=w.heap[b]?=some (.cells #[n.neg,bs n.dig,n.exp] 80 (0,0))
theorem pZ.keep {w w':World}{b:Nat}{n:dU} (h:pZ w b n) (hb:Below w.heap.size w w'):pZ w' b n:=(hb.block b (aF h)).trans h
theorem pZ.cells {w:World}{b:Nat}{n:dU} (h:pZ w b n):w.cell? ⟨b,0,none⟩=some (.bool n.neg)/\w.cell? ⟨b,1,none⟩=some (.string (bs n.dig))/\w.cell? ⟨b,2,none⟩=some (.int .i64 n.exp):=
 ⟨oT h 0,oT h 1,oT h 2⟩
theorem pZ.new (w:World) (n:dU):pZ (w.alloc (.cells #[n.neg,bs n.dig,n.exp] 80)) w.heap.size n:=heap_alloc_new w _
abbrev uT (B:Nat) (n:dU) (w0 w':World):Prop:=
 (w'.cell? ⟨B,0,none⟩=some (.bool n.neg)/\w'.cell? ⟨B,1,none⟩=some (.string (bs n.dig))/\w'.cell? ⟨B,2,none⟩=some (.int .i64 n.exp))/\Hid (pZ w' B n/\Below B w0 w')
theorem uT.of {B:Nat}{n:dU}{w0 w1:World} (h:pZ w1 B n) (hb:Below B w0 w1):uT B n w0 w1:=⟨h.cells,h,hb⟩
theorem uT.step {B:Nat}{n:dU}{w0 w1 w2:World} (h:uT B n w0 w1) (hb:Below w1.heap.size w1 w2):uT B n w0 w2:=
 uT.of (h.2.out.1.keep hb) (h.2.out.2.trans (hb.mono (Nat.le_of_lt (aF h.2.out.1))))
theorem aAx (n:dU) (w:World) (hd:n.dig.length<=4294967296) (R:Bool) (h:jO n=R):
  Calls Tryz.prog 125 #[.agg #[n.neg,bs n.dig,n.exp]] w λen w'=>en= .returned (.bool R)/\Below w.heap.size w w':=by
 have:=aAt n.neg (bs n.dig) n.exp w EA;rw[aQ,h] at this;exact this
theorem aAy (n:dU) (w:World) (R:Bool) (h:decide (n=cF)=R):
  Calls Tryz.prog 126 #[.agg #[n.neg,bs n.dig,n.exp]] w λen w'=>en= .returned (.bool R)/\Below w.heap.size w w':=by
 have:=Np n.neg (bs n.dig) n.exp w;rw[aQ,h] at this;exact this
theorem Ns (n:dU) (w:World) (hd:n.dig.length<=4294967296):
  Calls Tryz.prog 89 #[.agg #[n.neg,bs n.dig,n.exp]] w λe w'=>e= .returned (.string (bs (kB n)))/\Below w.heap.size w w':=by
 have A9:=trivial;exact tz
theorem Nt (s:aA) (w:World):
  Calls Tryz.prog 32 #[bs s] w λe w'=>e= .returned (.agg #[(4:Int),bs s,(),()])/\Below w.heap.size w w':=by
 have zh:=trivial;exact rh
theorem aAz (s:aA) (w:World) (hs:s.length<=1073741824) (hV:lT w):
  Calls Tryz.prog 56 #[bs s] w λe w'=>e=sV s/\Below w.heap.size w w':=qe
theorem Nu {l:List VT}{i:Nat}{x:VT} (hx:l[i]?=some x):l.take (i+1)=l.take i++ [x]:=by
 obtain⟨a,b⟩:=aR.1 hx;rw[List.take_succ_eq_append_getElem a,b]
def Ft (n:Nat):Prop:= ∀(t:VT) (kv iv:Value) (w:World),VD w n t kv iv->t.bulk<=1099511627776->
  Calls Tryz.prog 69 #[vv t kv iv] w λe w'=>e= .returned (.int .i64 (t.size:Int))/\Below w.heap.size w w'
theorem aAA (n:Nat) (IH:Ft n):Ft (n+1):=by
 have yf:=trivial;exact qo
theorem Nv: ∀n,Ft n
 | 0=>λ_ _ _ _ h=>h.elim
 | n+1=>aAA n (Nv n)
def Fu (n:Nat):Prop:= ∀(t:VT) (kv iv:Value) (w:World),VD w n t kv iv->t.bulk<=1099511627776->
  Calls Tryz.prog 68 #[vv t kv iv] w λe w'=>e= .returned (.int .i64 (t.depth:Int))/\Below w.heap.size w w'
theorem aAB (n:Nat) (IH:Fu n):Fu (n+1):=by
 have yg:=trivial;exact qo
theorem Nw: ∀n,Fu n
 | 0=>λ_ _ _ _ h=>h.elim
 | n+1=>aAB n (Nw n)
end Go.Proofs.YtfhjncbdgjlcoaaGreatDoor
